/-
  The law FollowExchanges.
-/
import Derived.Test.YtofilkphaelceaaFoLp
import Derived.Test.YtofilkphaelceaaFoTe
set_option linter.unusedVariables false
namespace Go.Proofs.Ytofilkphaelceaa
open Go Go.RowKit Fo Sk Go.Sort
theorem ex_cases (l : List St) (o : List Int) (hl : o.length ≤ 200) :
    (exchR l o = ([], 1) ∧ ∃ x, permR l o = (x, 1)) ∨ (exchR l o = ([], 14) ∧ ∃ x, 0 ≤ x ∧ permR l o = (x, 0)) ∨ (exchR l o = (exchF o, 0) ∧ valid l = true ∧ PermP l o) := by
  cases hv : valid l with
  | false =>
    have hp := permR_bad (l := l) (o := o) (.inl hv)
    exact .inl ⟨exchR_err hp (by decide), _, hp⟩
  | true =>
    have hp := permR_ok hv hl
    by_cases h : permF l o = -1
    · have := exchR_ok hp (by omega)
      exact .inr (.inr ⟨this.1, rfl, permF_iff.1 h⟩)
    · have h0 : 0 ≤ permF l o := by
        unfold permF at h ⊢
        split at h
        · omega
        · exact absurd rfl h
      exact .inr (.inl ⟨exchR_no hp h0, _, h0, hp⟩)
theorem inv_take {o : List Int} {i : Nat} (h : i < o.length) : inv (o.take (i + 1)) = inv (o.take i) + ((o.take i).filter fun b => decide (o[i] < b)).length := by
  rw [List.take_add_one, List.getElem?_eq_getElem h, Option.toList_some, inv_snoc]
theorem cnt_take {o : List Int} {x : Int} {k : Nat} (h : k < o.length) : ((o.take (k + 1)).filter fun b => decide (x < b)).length = ((o.take k).filter fun b => decide (x < b)).length + (if x < o[k] then 1 else 0) := by
  rw [List.take_add_one, List.getElem?_eq_getElem h, Option.toList_some, List.filter_append, List.length_append]
  by_cases hx : x < o[k] <;> simp [hx]

set_option maxRecDepth 100000 in
set_option maxHeartbeats 8000000 in
theorem exchanges_walk (hso : SortOk) (ao : Option Addr) (n cap : Nat) (l : List St) (bo : Option Addr) (m capb : Nat) (o : List Int) (w : World) (hs : SlS w ao n cap l) (hd : Sl w 1 cI bo m capb o) :
    Calls Try.prog 7 #[.slice ao n cap, .slice bo m capb] w (Ret w (.bool true)) := by
  obtain rfl := hs.1.len
  have hle := hs.1.le
  have hcap := hs.1.max
  unfold maxLen at hcap
  have HS := Lib.hid hs
  have HSO := Lib.hid hso
  have HB_w : Below w.heap.size w w := Below.refl _ _
  obtain rfl := hd.len
  have hle2 := hd.le
  have hcap2 := hd.max
  unfold maxLen at hcap2
  have HD := Lib.hid hd
  have HC := Lib.hid (ex_cases l o)
  obtain ⟨i0, hi, hz0, hz1, hz2⟩ := info_parts info_int
  have HI := Lib.hid hi
  have HZ0 := Lib.hid hz0
  have HZ1 := Lib.hid hz1
  have HZ2 := Lib.hid hz2
  clear hs hd hso hi hz0 hz1 hz2
  go_enter Try.func7, Try.ntmps7
  go_wp2_with fail
  refine (head_any HSO.out _).mono ?_
  rintro e wa ⟨rfl, hb_wa⟩
  have HB_wa : Below w.heap.size w wa := by first | exact after0 HB_w hb_wa | exact after1 HB_w hb_wa | exact after2 HB_w hb_wa | exact after3 HB_w hb_wa | exact after4 HB_w hb_wa | exact after5 HB_w hb_wa
  go_wp2_with fail
  refine (rfew_any _ _ _ l _ (HS.out.below HB_wa)).mono ?_
  rintro e wb ⟨rfl, hb_wb⟩
  have HB_wb : Below w.heap.size w wb := by first | exact after0 HB_wa hb_wb | exact after1 HB_wa hb_wb | exact after2 HB_wa hb_wb | exact after3 HB_wa hb_wb | exact after4 HB_wa hb_wb | exact after5 HB_wa hb_wb
  cases h1 : fewB l
  · clear h1
    go_wp2_with fail
    all_goals try (exfalso; omega)
    go_ret
    exact ⟨rfl, HB_wb⟩
  clear h1
  by_cases h30 : 30 < (o.length : Int)
  ·
    go_wp2_with fail
    all_goals try (exfalso; omega)
    go_ret
    exact ⟨rfl, HB_wb⟩
  have h30' : (o.length : Int) ≤ 30 := by omega
  clear h30
  have HX := Lib.hid (Exchanges_any _ _ _ l _ _ _ o _ (HS.out.below HB_wb) (HD.out.below HB_wb))
  rcases HC.out (by omega) with ⟨e1, x, e2⟩ | ⟨e1, x, hx, e2⟩ | ⟨e1, hv, hP⟩
  · rw [e1] at HX
    clear HC e1
    go_wp2_with fail
    all_goals try (exfalso; omega)
    refine (HX.out).mono ?_
    rintro e wc ⟨so, sn, sc, rfl, hsw, hb_wc⟩
    have HB_wc : Below w.heap.size w wc := by first | exact after0 HB_wb hb_wc | exact after1 HB_wb hb_wc | exact after2 HB_wb hb_wc | exact after3 HB_wb hb_wc | exact after4 HB_wb hb_wc | exact after5 HB_wb hb_wc
    have HP := Lib.hid (Permitted_any _ _ _ l _ _ _ o _ (HS.out.below HB_wc) (HD.out.below HB_wc))
    rw [e2] at HP
    clear hsw HX e2
    go_wp2_with fail
    all_goals try (exfalso; omega)
    refine (HP.out).mono ?_
    rintro e wd ⟨rfl, hb_wd⟩
    have HB_wd : Below w.heap.size w wd := by first | exact after0 HB_wc hb_wd | exact after1 HB_wc hb_wd | exact after2 HB_wc hb_wd | exact after3 HB_wc hb_wd | exact after4 HB_wc hb_wd | exact after5 HB_wc hb_wd
    go_wp2_with fail
    all_goals try (exfalso; omega)
    go_ret
    exact ⟨rfl, HB_wd⟩
  · rw [e1] at HX
    clear HC e1
    go_wp2_with fail
    all_goals try (exfalso; omega)
    refine (HX.out).mono ?_
    rintro e wc ⟨so, sn, sc, rfl, hsw, hb_wc⟩
    have HB_wc : Below w.heap.size w wc := by first | exact after0 HB_wb hb_wc | exact after1 HB_wb hb_wc | exact after2 HB_wb hb_wc | exact after3 HB_wb hb_wc | exact after4 HB_wb hb_wc | exact after5 HB_wb hb_wc
    have HP := Lib.hid (Permitted_any _ _ _ l _ _ _ o _ (HS.out.below HB_wc) (HD.out.below HB_wc))
    rw [e2] at HP
    clear hsw HX e2
    go_wp2_with fail
    all_goals try (exfalso; omega)
    refine (HP.out).mono ?_
    rintro e wd ⟨rfl, hb_wd⟩
    have HB_wd : Below w.heap.size w wd := by first | exact after0 HB_wc hb_wd | exact after1 HB_wc hb_wd | exact after2 HB_wc hb_wd | exact after3 HB_wc hb_wd | exact after4 HB_wc hb_wd | exact after5 HB_wc hb_wd
    go_wp2_with fail
    all_goals try (exfalso; omega)
    go_ret
    exact ⟨rfl, HB_wd⟩
  rw [e1] at HX
  have HV := Lib.hid (vok hv)
  have HPP := Lib.hid hP
  have hl200 := HV.out.len
  have HPR := Lib.hid (fun o' (h1 : o'.length ≤ 200) (h2 : PermP l o') => permR_of hv h1 h2)
  have HMR := Lib.hid (fun (a : Int) (s : St) (hf : findS l a = some s) => missR_ok (d := []) hv (by rfl) hf)
  have hinv := inv_le o
  have hsq : o.length * o.length ≤ 30 * 30 := Nat.mul_le_mul (by omega) (by omega)
  clear HC e1 hv hP
  go_wp2_with fail
  all_goals try (exfalso; omega)
  refine (HX.out).mono ?_
  rintro e wc ⟨so, sn, sc, rfl, hsw, hb_wc⟩
  have HB_wc : Below w.heap.size w wc := by first | exact after0 HB_wb hb_wc | exact after1 HB_wb hb_wc | exact after2 HB_wb hb_wc | exact after3 HB_wb hb_wc | exact after4 HB_wb hb_wc | exact after5 HB_wb hb_wc
  obtain rfl := hsw.len
  have HSW := Lib.hid hsw
  have hswm := hsw.max
  have hswl := hsw.le
  unfold maxLen at hswm
  clear hsw HX
  go_wp2_with fail
  all_goals try (exfalso; omega)
  go_loopw [10, 67] (fun pr i wr => ∃ (k : Nat), k ≤ o.length ∧ pr = .int .i64 (inv (o.take k)) ∧ i = .int .i64 k ∧ Hid (Below wc.heap.size wc wr)) (fun _ i _ => o.length - (intOf i).toNat)
  case atStart => exact ⟨0, Nat.zero_le _, rfl, rfl, Below.refl _ _⟩
  case round =>
    obtain ⟨k, hk, rfl, rfl, HB5⟩ := hrel
    have HB_wr := after0 HB_wc HB5.out
    by_cases hlk : k < o.length
    · have HIT := Lib.hid (inv_take hlk)
      have hivt := inv_le (o.take k)
      have hltk : (o.take k).length ≤ 30 := by rw [List.length_take]; omega
      have hsq2 : (o.take k).length * (o.take k).length ≤ 30 * 30 := Nat.mul_le_mul hltk hltk
      clear hltk
      obtain ⟨b, off, rfl, hb, hrow⟩ := HD.out.get hlk
      have HCX := Lib.hid ((hrow k hlk).c1)
      have HCQ := Lib.hid (fun q (hq : q < o.length) => (hrow q hq).c1)
      have HCT := Lib.hid (fun q (hq : q < o.length) => cnt_take (x := o[k]) hq)
      rw [Nat.mul_one] at HCX
      clear hrow
      generalize o[k] = x at *
      obtain ⟨iv, hiv⟩ : ∃ N, inv (o.take k) = N := ⟨_, rfl⟩
      rw [hiv] at HIT hivt ⊢
      have hiv9 : iv ≤ 900 := by omega
      clear hivt hsq2 hiv
      go_wp2_with fail
      go_loopw [10, 71] (fun pr i wr => ∃ (q c : Nat), q ≤ k ∧ c ≤ q ∧ Hid (((o.take q).filter fun b => decide (x < b)).length = c) ∧ pr = .int .i64 ((iv + c : Nat) : Int) ∧ i = .int .i64 q ∧ Hid (Below wc.heap.size wc wr)) (fun _ i _ => k - (intOf i).toNat)
      case atStart => exact ⟨0, 0, Nat.zero_le _, Nat.le_refl _, rfl, rfl, rfl, HB5.out⟩
      case round =>
        clear HB5 HB_wr
        obtain ⟨q, c, hq, hcq, HCC, rfl, rfl, HB5⟩ := hrel
        have HB_wr := after0 HB_wc HB5.out
        by_cases hlq : q < k
        · have HC1 := Lib.hid (HCT.out q (by omega))
          rw [HCC.out] at HC1
          have e_0 : wr.cell? ⟨b, off + q, none⟩ = some (.int .i64 (o[q]'(by omega))) := (HB_wr.cell (p := ⟨b, off + q, none⟩) hb).trans (by have := HCQ.out q (by omega); rwa [Nat.mul_one] at this)
          have e_1 : wr.cell? ⟨b, off + k, none⟩ = some (.int .i64 x) := (HB_wr.cell (p := ⟨b, off + k, none⟩) hb).trans HCX.out
          have hqo : q < o.length := by omega
          generalize o[q]'(_) = y at *
          by_cases hxy : x < y
          · rw [if_pos hxy] at HC1
            go_wp2_with fail
            have y_e_0 := cell_regrown e_0
            have y_e_1 := cell_regrown e_1
            clear e_0 e_1
            refine wp_region_plan (C := fun w' => ∃ p : Regrown, w' = grow (redrawn wr p.d) p.os) (.q 0 (.q 1 (.q 2 (.q 3 (.q 4 (.q 5 (.q 6 (.q 7 (.q 8 (.done)))))))))) 9 (by kernel_rfl) (by kernel_rfl) (grew_drew _) ?_
            repeat (any_goals (first | (go_big_quiet_skip; refine wpQuiet_nil ?_) | (go_big_quiet_want; go_big_quiet_op; go_big_quiet_on; refine wpQuiet_nil ?_) | ((with_reducible apply q_split); exact rfl; intro q hq; cases q <;> (rw [hq]; (try first | replace hq := bnot_t hq | replace hq := bnot_f hq); (try first | replace hq := of_decide_eq_true hq | replace hq := of_decide_eq_false hq | replace hq := eq_of_beq hq); (try first | replace hq := Int.not_lt.1 hq | replace hq := Int.not_le.1 hq | replace hq := Nat.not_lt.1 hq | replace hq := Nat.not_le.1 hq); try (exfalso; omega))) | (refine plan_q rfl rfl ?_)))
            clear y_e_0 y_e_1
            all_goals refine plan_done ?_
            all_goals (try simp only [List.drop_succ_cons, List.drop_zero])
            all_goals (try go_wp2_with fail)
            all_goals refine NoPanic.normal ?_
            all_goals (try go_wp2_with fail)
            go_roundw
            case rel => exact ⟨q + 1, c + 1, hlq, by omega, HC1, by go_num, by go_num, HB5.out.drew⟩
            case measure => simp [intOf] <;> omega
          · rw [if_neg hxy] at HC1
            have hxy2 : y ≤ x := by omega
            clear hxy
            go_wp2_with fail
            have y_e_0 := cell_regrown e_0
            have y_e_1 := cell_regrown e_1
            clear e_0 e_1
            refine wp_region_plan (C := fun w' => ∃ p : Regrown, w' = grow (redrawn wr p.d) p.os) (.q 0 (.q 1 (.q 2 (.q 3 (.q 4 (.q 5 (.q 6 (.q 7 (.q 8 (.done)))))))))) 9 (by kernel_rfl) (by kernel_rfl) (grew_drew _) ?_
            repeat (any_goals (first | (go_big_quiet_skip; refine wpQuiet_nil ?_) | (go_big_quiet_want; go_big_quiet_op; go_big_quiet_on; refine wpQuiet_nil ?_) | ((with_reducible apply q_split); exact rfl; intro q hq; cases q <;> (rw [hq]; (try first | replace hq := bnot_t hq | replace hq := bnot_f hq); (try first | replace hq := of_decide_eq_true hq | replace hq := of_decide_eq_false hq | replace hq := eq_of_beq hq); (try first | replace hq := Int.not_lt.1 hq | replace hq := Int.not_le.1 hq | replace hq := Nat.not_lt.1 hq | replace hq := Nat.not_le.1 hq); try (exfalso; omega))) | (refine plan_q rfl rfl ?_)))
            clear y_e_0 y_e_1
            all_goals refine plan_done ?_
            all_goals (try simp only [List.drop_succ_cons, List.drop_zero])
            all_goals (try go_wp2_with fail)
            all_goals refine NoPanic.normal ?_
            all_goals (try go_wp2_with fail)
            go_roundw
            case rel => exact ⟨q + 1, c, hlq, by omega, HC1, rfl, by go_num, HB5.out.drew⟩
            case measure => simp [intOf] <;> omega
        · obtain rfl : q = k := by omega
          rw [HCC.out] at HIT
          clear HCC
          go_wp2_with fail
          go_roundw
          case rel => exact ⟨q + 1, hlk, by rw [HIT.out], by go_num, HB5.out⟩
          case measure => simp [intOf] <;> omega
    · obtain rfl : k = o.length := by omega
      rw [List.take_length, ← exchF_len]
      obtain ⟨W6, rfl⟩ : ∃ X, X = wr := ⟨_, rfl⟩
      have HB_W6 := HB_wr
      have HSW6 := Lib.hid (HSW.out.below HB5.out)
      have HST := Lib.hid (fun j cur (h : ExRun l o j cur) (hj : j < (exchF o).length) => h.step HV.out hj)
      have HEN := Lib.hid (fun j cur (h : ExRun l o j cur) => h.end_)
      generalize exchF o = X at *
      clear HSW HB5 HB_wr
      have HO0 := Lib.hid (show OwnL (W6.alloc (.cells #[] 3)) W6.heap.size 3 1 cI (.slice (some ⟨W6.heap.size, 0, none⟩) 0 0) [] from OwnL.made (Nat.le_refl _))
      go_wp2_with (at_builtin; refine wpList_append_sl rfl _ _ 23 rfl W6.heap.size 3 i0 _ 1 8 Try.underlying23 HI.out HZ0.out HZ1.out HZ2.out rfl (by decide) cI_len cI_one _ [] rfl HO0.out bo o.length capb o rfl (by first | exact HD.out.below (grew1 HB_W6) | exact HD.out.below (grew1 (Below.refl _ _))) (by unfold maxLen; simp; omega) (by simp; omega) (by simp) ?_)
      rintro v_w1 w1 ho hg hgr
      have HO_w1 := Lib.hid ho
      have HB_w1 : Below w.heap.size w w1 := (grew1 HB_W6).trans (hg _ HB_W6.size)
      have hb_w1 := Lib.hid (show Below W6.heap.size W6 w1 from (grew1 (Below.refl _ _)).trans (hg _ (Nat.le_refl _)))
      have hz_w1 : W6.heap.size ≤ w1.heap.size := hb_w1.out.size
      clear ho hg hgr HO0
      obtain ⟨lo, lc, rfl, _⟩ := HO_w1.out.sl cI_len
      go_wp2_with fail
      go_loopw [5, 92] (fun up i wr => ∃ (j : Nat) (cur : List Int), j ≤ X.length ∧ up = .bool true ∧ i = .int .i64 j ∧ Hid (Below W6.heap.size W6 wr) ∧ Hid (OwnL wr W6.heap.size 3 1 cI (.slice lo o.length lc) cur) ∧ Hid (ExRun l o j cur)) (fun _ i _ => X.length - (intOf i).toNat)
      case atStart => exact ⟨0, o, Nat.zero_le _, rfl, rfl, hb_w1.out, HO_w1.out, ExRun.start HPP.out⟩
      case round =>
        clear HO_w1 hb_w1 hz_w1 HB_w1
        obtain ⟨j, cur, hj, rfl, rfl, HB5, HO, HR⟩ := hrel
        have HB_wr := after0 HB_W6 HB5.out
        have hcl := HR.out.perm.length_eq
        by_cases hlj : j < X.length
        · obtain ⟨k, hk, hxk, hlt, hrun, hmiss⟩ := HST.out j cur HR.out hlj
          have HXJ := (HSW6.out.below HB5.out).get hlj
          obtain ⟨b7, off7, rfl, hb7, hrow7⟩ := HXJ
          have e_0 := (hrow7 j hlj).c1
          rw [Nat.mul_one, hxk] at e_0
          have HO1 := HO.out
          have hk0 : k < cur.length := Nat.lt_of_succ_lt hk
          have hkl : k + 1 < o.length := hcl ▸ hk
          obtain ⟨g, cg, hve, hg1, hg2⟩ := OwnL.form HO1 (by omega)
          rw [hcl] at hve
          simp only [Value.slice.injEq, true_and] at hve
          obtain ⟨rfl, rfl⟩ := hve
          have HO2 := HO1
          rw [← hcl] at HO2
          have g_0 := OwnL.cellI HO2 (List.getElem?_eq_getElem hk0)
          have g_1 := OwnL.cellI HO2 (List.getElem?_eq_getElem hk)
          have hfr := fun j => OwnL.frozenI HO1 j
          obtain ⟨s, hs, hsn⟩ := HR.out.ok.mem (List.getElem_mem hk0)
          obtain ⟨sf, hfa⟩ : ∃ s, findS l cur[k] = some s := by
            obtain ⟨k2, hk2, rfl⟩ := List.getElem_of_mem hs
            exact ⟨_, hsn ▸ find_mem HV.out hk2⟩
          have HBM := Lib.hid (Before_any HSO.out _ _ _ l cur[k] _ (HS.out.below HB_wr))
          rw [HMR.out _ _ hfa] at HBM
          have HSET := Lib.hid (swp_set k cur hk)
          have HRUN := Lib.hid hrun
          have HMISS := Lib.hid hmiss
          have hzk : ((k : Int) < 0) = False := eq_false (by omega)
          clear hs hsn hfa hrow7 HO1 HO2 hxk hrun hmiss
          generalize cur[k + 1] = y at *
          generalize cur[k] = x at *
          generalize missF l [] x = M at *
          go_wp2_with fail
          refine (HBM.out).mono ?_
          rintro e we ⟨mo, mn, mc, rfl, hm, hb_we⟩
          have HB_we : Below w.heap.size w we := by first | exact after0 HB_wr hb_we | exact after1 HB_wr hb_we | exact after2 HB_wr hb_we | exact after3 HB_wr hb_we | exact after4 HB_wr hb_we | exact after5 HB_wr hb_we
          have HM := Lib.hid hm
          have HB5e := Lib.hid (after0 HB5.out hb_we)
          have HOe := Lib.hid (HO.out.below hb_we)
          have y_0 : we.cell? ⟨g, k, none⟩ = some (.int .i64 x) := (hb_we.cell (p := ⟨g, k, none⟩) hg2).trans g_0
          have y_1 : we.cell? ⟨g, k + 1, none⟩ = some (.int .i64 y) := (hb_we.cell (p := ⟨g, k + 1, none⟩) hg2).trans g_1
          have HRH := Lib.hid (show ∀ W, Below we.heap.size we W → Calls Try.prog 32 #[.slice mo mn mc, .int .i64 y] W (Ret W (.bool false)) from fun W hW => by
            have := rhas_any mo mn mc M y W (HM.out.below hW)
            rwa [HMISS.out] at this)
          clear hm HBM HB5 HO e_0 g_0 g_1 hfr HM HMISS
          go_wp2_with fail
          have HY0 := Lib.hid y_0
          have HY1 := Lib.hid y_1
          have y_y_0 := cell_regrown y_0
          have y_y_1 := cell_regrown y_1
          clear y_0 y_1
          refine wp_region_plan (C := fun w' => ∃ p : Regrown, w' = grow (redrawn we p.d) p.os) (.q 0 (.q 1 (.q 2 (.q 3 (.q 4 (.q 5 (.q 6 (.q 7 (.q 8 (.q 9 (.q 10 (.q 11 (.q 12 (.q 13 (.q 14 (.q 15 (.q 16 (.q 17 (.q 18 (.q 19 (.q 20 (.q 21 (.q 22 (.q 23 (.e 24 (.q 25 (.q 26 (.q 27 (.done))))))))))))))))))))))))))))) 28 (by kernel_rfl) (by kernel_rfl) (grew_drew _) ?_
          repeat (any_goals (first | (go_big_quiet_skip; refine wpQuiet_nil ?_) | (go_big_quiet_want; go_big_quiet_op; go_big_quiet_on; refine wpQuiet_nil ?_) | ((with_reducible apply q_split); exact rfl; intro q hq; cases q <;> (rw [hq]; (try first | replace hq := bnot_t hq | replace hq := bnot_f hq); (try first | replace hq := of_decide_eq_true hq | replace hq := of_decide_eq_false hq | replace hq := eq_of_beq hq); (try first | replace hq := Int.not_lt.1 hq | replace hq := Int.not_le.1 hq | replace hq := Nat.not_lt.1 hq | replace hq := Nat.not_le.1 hq); try (exfalso; omega))) | (refine plan_q rfl rfl ?_)))
          refine plan_e rfl ?_
          go_wp2_with fail
          refine (HRH.out _ (below_drew)).mono ?_
          rintro e w3 ⟨rfl, hb_w3⟩
          have HW_w3 : Below we.heap.size we w3 := below_undrew hb_w3
          clear hb_w3
          go_wp2_with fail
          refine MixPost.intro (grew_of_below HW_w3) ?_
          repeat (any_goals (first | (go_big_quiet_skip; refine wpQuiet_nil ?_) | (go_big_quiet_want; go_big_quiet_op; go_big_quiet_on; refine wpQuiet_nil ?_) | ((with_reducible apply q_split); exact rfl; intro q hq; cases q <;> (rw [hq]; (try first | replace hq := bnot_t hq | replace hq := bnot_f hq); (try first | replace hq := of_decide_eq_true hq | replace hq := of_decide_eq_false hq | replace hq := eq_of_beq hq); (try first | replace hq := Int.not_lt.1 hq | replace hq := Int.not_le.1 hq | replace hq := Nat.not_lt.1 hq | replace hq := Nat.not_le.1 hq); try (exfalso; omega))) | (refine plan_q rfl rfl ?_)))
          clear y_y_0 y_y_1
          all_goals refine plan_done ?_
          all_goals (try simp only [List.drop_succ_cons, List.drop_zero])
          all_goals (try go_wp2_with fail)
          all_goals refine NoPanic.normal ?_
          all_goals (try go_wp2_with fail)
          have HO3 := Lib.hid (HOe.out.below HW_w3)
          have HB53 := Lib.hid (after0 HB5e.out HW_w3)
          have HB_w3 : Below w.heap.size w w3 := after0 HB_we HW_w3
          have hgw : g < we.heap.size := Nat.lt_of_lt_of_le hg2 hb_we.size
          obtain ⟨W, hW⟩ : ∃ W, w3.drew = W := ⟨_, rfl⟩
          have HB_W : Below w.heap.size w W := hW ▸ HB_w3.drew
          have HB5W : Hid (Below W6.heap.size W6 W) := hW ▸ Lib.hid HB53.out.drew
          have HOW := Lib.hid (show OwnL W W6.heap.size 3 1 cI (.slice (some ⟨g, 0, none⟩) o.length lc) cur from hW ▸ HO3.out.drew)
          have HO9 := Lib.hid (show OwnL ((W.setCell ⟨g, k, none⟩ (.int .i64 y)).setCell ⟨g, k + 1, none⟩ (.int .i64 x)) W6.heap.size 3 1 cI (.slice (some ⟨g, 0, none⟩) o.length lc) (swp k cur) from HSET.out ▸ OwnL.setI (OwnL.setI HOW.out k y) (k + 1) x)
          have hwg : w.heap.size ≤ g := Nat.le_trans HB_W6.size hg1
          have HB_9 : Below w.heap.size w ((W.setCell ⟨g, k, none⟩ (.int .i64 y)).setCell ⟨g, k + 1, none⟩ (.int .i64 x)) := (HB_W.setCell (p := ⟨g, k, none⟩) hwg _).setCell (p := ⟨g, k + 1, none⟩) hwg _
          have HB59 : Hid (Below W6.heap.size W6 ((W.setCell ⟨g, k, none⟩ (.int .i64 y)).setCell ⟨g, k + 1, none⟩ (.int .i64 x))) := Lib.hid ((HB5W.out.setCell (p := ⟨g, k, none⟩) hg1 _).setCell (p := ⟨g, k + 1, none⟩) hg1 _)
          have f_1 := OwnL.frozenI HOW.out (k + 1)
          have f_2 := OwnL.frozenI HOW.out k
          have c_0 : W.cell? ⟨g, k, none⟩ = some (.int .i64 x) := by rw [← hW]; exact (HW_w3.cell (p := ⟨g, k, none⟩) hgw).trans HY0.out
          have c_1 : W.cell? ⟨g, k + 1, none⟩ = some (.int .i64 y) := by rw [← hW]; exact (HW_w3.cell (p := ⟨g, k + 1, none⟩) hgw).trans HY1.out
          have y_n : Nonempty (Wc (fun W => True)) := ⟨⟨W, trivial⟩⟩
          clear HOW HSET HY0 HY1 HO3 HB53 HB5W HOe HB5e HRH
          refine wp_region_plan (C := fun w' => ∃ p : Wc (fun W => True), w' = p.w) (.q 0 (.q 1 (.q 2 (.q 3 (.q 4 (.q 5 (.q 6 (.q 7 (.q 8 (.q 10 (.q 11 (.q 12 (.two 9 (.e 13 (.q 14 (.e 15 (.q 16 (.e 17 (.done)))))) 13 (.e 9 (.q 14 (.e 15 (.q 16 (.e 17 (.done))))))))))))))))))) 18 (by kernel_rfl) (by kernel_rfl) ⟨⟨_, ?_⟩, rfl⟩ ?_
          · trivial
          repeat (any_goals (first | (go_big_quiet_skip; refine wpQuiet_nil ?_) | (go_big_quiet_want; go_big_quiet_op; go_big_quiet_on; refine wpQuiet_nil ?_) | ((with_reducible apply q_split); exact rfl; intro q hq; cases q <;> (rw [hq]; (try first | replace hq := bnot_t hq | replace hq := bnot_f hq); (try first | replace hq := of_decide_eq_true hq | replace hq := of_decide_eq_false hq | replace hq := eq_of_beq hq); (try first | replace hq := Int.not_lt.1 hq | replace hq := Int.not_le.1 hq | replace hq := Nat.not_lt.1 hq | replace hq := Nat.not_le.1 hq); try (exfalso; omega))) | (refine plan_q rfl rfl ?_)))
          rw [show { heap := w3.heap, tape := w3.tape, drawn := w3.drawn + 1, os := w3.os, output := w3.output } = W from hW]
          clear hW
          obtain ⟨W9, hW9⟩ : ∃ X, (W.setCell ⟨g, k, none⟩ (.int .i64 y)).setCell ⟨g, k + 1, none⟩ (.int .i64 x) = X := ⟨_, rfl⟩
          rw [hW9] at HO9 HB_9 HB59
          have HB_W9 := HB_9
          have HW9 := Lib.hid hW9
          clear hW9 HB_9
          obtain ⟨vo, vc, hve, hss⟩ := HO9.out.sl cI_len
          have hsl : (swp k cur).length = o.length := by rw [swp_len, hcl]
          rw [hsl] at hve hss
          simp only [Value.slice.injEq, true_and] at hve
          obtain ⟨rfl, rfl⟩ := hve
          have HP9 := Lib.hid (Permitted_any _ _ _ l _ _ _ (swp k cur) _ (HS.out.below HB_W9) hss)
          rw [HPR.out _ (by omega) HRUN.out.ok] at HP9
          clear hss hsl
          refine plan_two rfl rfl ?_ ?_
          all_goals
            go_wp2_with fail
            refine MixPost.intro ⟨⟨_, trivial⟩, rfl⟩ ?_
            repeat (any_goals (first | (go_big_quiet_skip; refine wpQuiet_nil ?_) | (go_big_quiet_want; go_big_quiet_op; go_big_quiet_on; refine wpQuiet_nil ?_) | ((with_reducible apply q_split); exact rfl; intro q hq; cases q <;> (rw [hq]; (try first | replace hq := bnot_t hq | replace hq := bnot_f hq); (try first | replace hq := of_decide_eq_true hq | replace hq := of_decide_eq_false hq | replace hq := eq_of_beq hq); (try first | replace hq := Int.not_lt.1 hq | replace hq := Int.not_le.1 hq | replace hq := Nat.not_lt.1 hq | replace hq := Nat.not_le.1 hq); try (exfalso; omega))) | (refine plan_q rfl rfl ?_)))
            refine plan_e rfl ?_
            go_wp2_with fail
            refine MixPost.intro ⟨⟨_, trivial⟩, rfl⟩ ?_
            repeat (any_goals (first | (go_big_quiet_skip; refine wpQuiet_nil ?_) | (go_big_quiet_want; go_big_quiet_op; go_big_quiet_on; refine wpQuiet_nil ?_) | ((with_reducible apply q_split); exact rfl; intro q hq; cases q <;> (rw [hq]; (try first | replace hq := bnot_t hq | replace hq := bnot_f hq); (try first | replace hq := of_decide_eq_true hq | replace hq := of_decide_eq_false hq | replace hq := eq_of_beq hq); (try first | replace hq := Int.not_lt.1 hq | replace hq := Int.not_le.1 hq | replace hq := Nat.not_lt.1 hq | replace hq := Nat.not_le.1 hq); try (exfalso; omega))) | (refine plan_q rfl rfl ?_)))
            refine plan_e rfl ?_
            go_wp2_with fail
            refine MixPost.intro ⟨⟨_, trivial⟩, rfl⟩ ?_
            repeat (any_goals (first | (go_big_quiet_skip; refine wpQuiet_nil ?_) | (go_big_quiet_want; go_big_quiet_op; go_big_quiet_on; refine wpQuiet_nil ?_) | ((with_reducible apply q_split); exact rfl; intro q hq; cases q <;> (rw [hq]; (try first | replace hq := bnot_t hq | replace hq := bnot_f hq); (try first | replace hq := of_decide_eq_true hq | replace hq := of_decide_eq_false hq | replace hq := eq_of_beq hq); (try first | replace hq := Int.not_lt.1 hq | replace hq := Int.not_le.1 hq | replace hq := Nat.not_lt.1 hq | replace hq := Nat.not_le.1 hq); try (exfalso; omega))) | (refine plan_q rfl rfl ?_)))
            refine plan_e rfl ?_
            go_wp2_with fail
            refine MixPost.intro ⟨⟨_, trivial⟩, rfl⟩ ?_
            refine plan_done ?_
            try simp only [List.drop_succ_cons, List.drop_zero]
            rw [HW9.out]
            clear HW9 c_0 c_1 f_1 f_2 y_n HB_W
            go_wp2_with fail
            refine NoPanic.normal ?_
            go_wp2_with fail
            refine (HP9.out).mono ?_
            rintro e wf ⟨rfl, hb_wf⟩
            have HB_wf : Below w.heap.size w wf := by first | exact after0 HB_W9 hb_wf | exact after1 HB_W9 hb_wf | exact after2 HB_W9 hb_wf | exact after3 HB_W9 hb_wf | exact after4 HB_W9 hb_wf | exact after5 HB_W9 hb_wf
            have HO10 := Lib.hid (HO9.out.below hb_wf)
            have HB510 := Lib.hid (after0 HB59.out hb_wf)
            clear HP9 HO9 HB59
            go_wp2_with fail
            go_roundw
            case rel => exact ⟨j + 1, swp k cur, hlj, rfl, by go_num, HB510.out, HO10.out, HRUN.out⟩
            case measure => simp [intOf] <;> omega
        · obtain rfl : j = X.length := by omega
          have HSE := Lib.hid (srt_unique HR.out.perm (HEN.out _ _ HR.out (Nat.le_refl _)))
          obtain ⟨vo, vc, hve, hss⟩ := HO.out.sl cI_len
          rw [hcl] at hve hss
          simp only [Value.slice.injEq, true_and] at hve
          obtain ⟨rfl, rfl⟩ := hve
          have HSS := Lib.hid hss
          clear hss HR
          go_wp2_with fail
          refine (sorted_any _ _ _ o _ (HD.out.below HB_wr) (by omega)).mono ?_
          rintro e w8 ⟨v, rfl, ho, hb_w8⟩
          have HB_w8 : Below w.heap.size w w8 := by first | exact after0 HB_wr hb_w8 | exact after1 HB_wr hb_w8 | exact after2 HB_wr hb_w8 | exact after3 HB_wr hb_w8 | exact after4 HB_wr hb_w8 | exact after5 HB_wr hb_w8
          rw [HSE.out] at ho
          obtain ⟨so2, sc2, rfl, hs8⟩ := ho.sl cI_len
          rw [hcl] at hs8
          try rw [hcl]
          have HI2 := Lib.hid (rints_any _ _ _ _ _ _ cur cur _ (HSS.out.below hb_w8) hs8)
          rw [decide_eq_true rfl] at HI2
          clear hs8 ho
          go_wp2_with fail
          refine (HI2.out).mono ?_
          rintro e w9 ⟨rfl, hb_w9⟩
          have HB_w9 : Below w.heap.size w w9 := by first | exact after0 HB_w8 hb_w9 | exact after1 HB_w8 hb_w9 | exact after2 HB_w8 hb_w9 | exact after3 HB_w8 hb_w9 | exact after4 HB_w8 hb_w9 | exact after5 HB_w8 hb_w9
          go_wp2_with fail
          go_ret
          exact ⟨rfl, HB_w9⟩
end Go.Proofs.Ytofilkphaelceaa
