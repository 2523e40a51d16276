/-
  The reference functions of the layer 'follow', walked: Beside.
-/
import Derived.Test.YtofilkphaelceaaFoRf
set_option linter.unusedVariables false
namespace Go.Proofs.Ytofilkphaelceaa
open Go Go.RowKit Fo Sk Go.Sort

set_option maxRecDepth 100000 in
set_option maxHeartbeats 8000000 in
theorem rbeside_any (ao : Option Addr) (n cap : Nat) (l : List St) (w : World) (hs : SlS w ao n cap l) :
    Calls Try.prog 27 #[.slice ao n cap] w (PairsE w (besR l)) := by
  obtain rfl := hs.1.len
  have hcap := hs.1.max
  have hle := hs.1.le
  unfold maxLen at hcap
  have HS := Lib.hid hs
  have HB_w : Below w.heap.size w w := Below.refl _ _
  have HBAD := Lib.hid (@besR_bad l)
  have HOK := Lib.hid (@besR_ok l)
  obtain ⟨i0, hi, hz0, hz1, hz2⟩ := info_parts info_pair
  have HI := Lib.hid hi
  have HZ0 := Lib.hid hz0
  have HZ1 := Lib.hid hz1
  have HZ2 := Lib.hid hz2
  clear hs hi hz0 hz1 hz2
  go_enter Try.func27, Try.ntmps27
  go_wp2_with fail
  refine (rvalid_any _ _ _ l _ HS.out).mono ?_
  rintro e wa ⟨rfl, hb_wa⟩
  have HB_wa : Below w.heap.size w wa := by first | exact after0 HB_w hb_wa | exact after1 HB_w hb_wa | exact after2 HB_w hb_wa | exact after3 HB_w hb_wa | exact after4 HB_w hb_wa | exact after5 HB_w hb_wa
  cases h1 : valid l
  · have HP := Lib.hid (HBAD.out h1)
    clear h1
    go_wp2_with fail
    go_ret2
    exact ⟨none, 0, 0, by rw [HP.out]; rfl, by rw [HP.out]; exact Sl.nil, HB_wa⟩
  have HV := Lib.hid (vok h1)
  have hl200 := HV.out.len
  have HP := Lib.hid (HOK.out h1)
  have HBF := Lib.hid (show ∀ (k : Nat) (hk : k < l.length), missR l [] l[k].n = (missF l [] l[k].n, 0) from fun k hk => missR_ok h1 rfl (find_mem HV.out hk))
  clear h1 HBAD HOK
  go_wp2_with fail
  all_goals try (exfalso; omega)
  go_loopw [5, 6] (fun o i wr => ∃ k : Nat, k ≤ l.length ∧ i = .int .i64 k ∧ Below w.heap.size w wr ∧ Hid (OwnL wr w.heap.size 46 2 cP o (besP l k))) (fun _ i _ => l.length - (intOf i).toNat)
  case atStart => exact ⟨0, Nat.zero_le _, rfl, HB_wa, OwnL.nil⟩
  case round =>
    obtain ⟨k, hk, rfl, HB_wr, HO⟩ := hrel
    by_cases hlt : k < l.length
    · have HSUC := Lib.hid (besP_succ hlt)
      have hbl := besP_len l k
      have hbl2 : k * l.length ≤ 40000 := Nat.le_trans (Nat.mul_le_mul (by omega : k ≤ 200) hl200) (by omega)
      have HO0 := HO
      have HB_w3 := HB_wr
      obtain ⟨b', off, rfl, hb, hrow⟩ := HS.out.1.get hlt
      have HE := Lib.hid (hrow k hlt).c2.1
      have HROW := Lib.hid hrow
      clear hrow HO HB_wr
      generalize besP l k = ys at *
      generalize l[k].n = s0 at *
      obtain ⟨W3, rfl⟩ : ∃ X, X = wr := ⟨_, rfl⟩
      go_wp2_with fail
      all_goals try (exfalso; omega)
      go_loopw [5, 7] (fun o i wr => ∃ j : Nat, k + 1 ≤ j ∧ j ≤ l.length ∧ i = .int .i64 j ∧ Hid (Below w.heap.size w wr) ∧ Hid (OwnL wr w.heap.size 46 2 cP o (ys ++ besQ l s0 ((l.drop (k + 1)).take (j - (k + 1)))))) (fun _ i _ => l.length - (intOf i).toNat)
      case atStart => exact ⟨k + 1, Nat.le_refl _, hlt, by go_num, HB_w3, by rw [Nat.sub_self, List.take_zero, besQ_nil, List.append_nil]; exact HO0.out⟩
      case round =>
        obtain ⟨j, hkj, hj, rfl, HBB, HO⟩ := hrel
        have HB_wr := HBB.out
        by_cases hlj : j < l.length
        · have hdq : j - (k + 1) < (l.drop (k + 1)).length := by rw [List.length_drop]; omega
          have HST := Lib.hid (besQ_succ (l := l) (a := s0) hdq)
          have hgd : (l.drop (k + 1))[j - (k + 1)] = l[j] := by rw [List.getElem_drop]; congr 1; omega
          rw [hgd, show j - (k + 1) + 1 = j + 1 - (k + 1) by omega] at HST
          have hzl := besQ_len l s0 ((l.drop (k + 1)).take (j - (k + 1)))
          rw [List.length_take] at hzl
          have e_0 := (HB_wr.cell (p := ⟨b', off + k * 2, none⟩) hb).trans HE.out
          have f_0 := (HB_wr.cell (p := ⟨b', off + j * 2, none⟩) hb).trans (HROW.out j hlj).c2.1
          have HE0 := Lib.hid e_0
          have HF0 := Lib.hid f_0
          have HX := Lib.hid (rbefore_any _ l.length cap l l[j].n wr (HS.out.below HB_wr))
          rw [HBF.out j hlj] at HX
          have HAH := Lib.hid (show (missF l [] l[j].n).contains s0 = ahd l l[j].n s0 from rfl)
          clear hdq hgd
          generalize l[j].n = t0 at *
          generalize missF l [] t0 = ms at *
          generalize besQ l s0 ((l.drop (k + 1)).take (j - (k + 1))) = zs at *
          generalize ahd l t0 s0 = av at *
          go_wp2_with fail
          all_goals try (exfalso; omega)
          refine (HX.out).mono ?_
          rintro e wb ⟨so, sn, sc, rfl, hsw, hb_wb⟩
          have HB_wb : Below w.heap.size w wb := by first | exact after0 HB_wr hb_wb | exact after1 HB_wr hb_wb | exact after2 HB_wr hb_wb | exact after3 HB_wr hb_wb | exact after4 HB_wr hb_wb | exact after5 HB_wr hb_wb
          obtain rfl := hsw.len
          have HH := Lib.hid (rhas_any _ _ _ ms s0 wb hsw)
          rw [HAH.out] at HH
          clear e_0 f_0 hsw HX
          have hwr := HB_wr.size
          have e_0 := (hb_wb.cell (p := ⟨b', off + k * 2, none⟩) (Nat.lt_of_lt_of_le hb hwr)).trans HE0.out
          have HO1 := Lib.hid (HO.out.below hb_wb)
          go_wp2_with fail
          clear e_0
          refine (HH.out).mono ?_
          rintro e wc ⟨rfl, hb_wc⟩
          have HB_wc : Below w.heap.size w wc := by first | exact after0 HB_wb hb_wc | exact after1 HB_wb hb_wc | exact after2 HB_wb hb_wc | exact after3 HB_wb hb_wc | exact after4 HB_wb hb_wc | exact after5 HB_wb hb_wc
          have hb2 := after0 hb_wb hb_wc
          have HO2 := Lib.hid (HO1.out.below hb_wc)
          clear hb_wb hb_wc HO HO1 HH HAH
          cases av
          · have HN := Lib.hid (show besQ l s0 ((l.drop (k + 1)).take (j + 1 - (k + 1))) = zs ++ [(s0, t0)] by rw [HST.out]; rfl)
            have hlz : (ys ++ zs).length ≤ 50000 := by rw [List.length_append]; omega
            have e_0 := (hb2.cell (p := ⟨b', off + k * 2, none⟩) (Nat.lt_of_lt_of_le hb hwr)).trans HE0.out
            have f_0 := (hb2.cell (p := ⟨b', off + j * 2, none⟩) (Nat.lt_of_lt_of_le hb hwr)).trans HF0.out
            go_wp2_with fail
            have y_n : Nonempty (Wc (fun W => True)) := ⟨⟨wc, trivial⟩⟩
            refine wp_region_plan (C := fun w' => ∃ p : Wc (fun W => True), w' = p.w) (.q 0 (.q 1 (.q 2 (.q 3 (.q 4 (.q 6 (.q 7 (.q 8 (.q 9 (.two 5 (.e 10 (.q 11 (.e 12 (.e 13 (.q 14 (.done)))))) 10 (.e 5 (.q 11 (.e 12 (.e 13 (.q 14 (.done)))))))))))))))) 15 (by kernel_rfl) (by kernel_rfl) ⟨⟨_, ?_⟩, rfl⟩ ?_
            · trivial
            repeat (any_goals (first | (go_big_quiet_skip; refine wpQuiet_nil ?_) | (go_big_quiet_want; go_big_quiet_op; go_big_quiet_on; refine wpQuiet_nil ?_) | ((with_reducible apply q_split); exact rfl; intro q hq; cases q <;> (rw [hq]; (try first | replace hq := bnot_t hq | replace hq := bnot_f hq); (try first | replace hq := of_decide_eq_true hq | replace hq := of_decide_eq_false hq | replace hq := eq_of_beq hq); (try first | replace hq := Int.not_lt.1 hq | replace hq := Int.not_le.1 hq | replace hq := Nat.not_lt.1 hq | replace hq := Nat.not_le.1 hq); try (exfalso; omega))) | (refine plan_q rfl rfl ?_)))
            refine plan_two rfl rfl ?_ ?_
            all_goals
              go_wp2_with fail
              refine MixPost.intro ⟨⟨_, trivial⟩, rfl⟩ ?_
              repeat (any_goals (first | (go_big_quiet_skip; refine wpQuiet_nil ?_) | (go_big_quiet_want; go_big_quiet_op; go_big_quiet_on; refine wpQuiet_nil ?_) | ((with_reducible apply q_split); exact rfl; intro q hq; cases q <;> (rw [hq]; (try first | replace hq := bnot_t hq | replace hq := bnot_f hq); (try first | replace hq := of_decide_eq_true hq | replace hq := of_decide_eq_false hq | replace hq := eq_of_beq hq); (try first | replace hq := Int.not_lt.1 hq | replace hq := Int.not_le.1 hq | replace hq := Nat.not_lt.1 hq | replace hq := Nat.not_le.1 hq); try (exfalso; omega))) | (refine plan_q rfl rfl ?_)))
              refine plan_e rfl ?_
              go_wp2_with fail
              refine MixPost.intro ⟨⟨_, trivial⟩, rfl⟩ ?_
              repeat (any_goals (first | (go_big_quiet_skip; refine wpQuiet_nil ?_) | (go_big_quiet_want; go_big_quiet_op; go_big_quiet_on; refine wpQuiet_nil ?_) | ((with_reducible apply q_split); exact rfl; intro q hq; cases q <;> (rw [hq]; (try first | replace hq := bnot_t hq | replace hq := bnot_f hq); (try first | replace hq := of_decide_eq_true hq | replace hq := of_decide_eq_false hq | replace hq := eq_of_beq hq); (try first | replace hq := Int.not_lt.1 hq | replace hq := Int.not_le.1 hq | replace hq := Nat.not_lt.1 hq | replace hq := Nat.not_le.1 hq); try (exfalso; omega))) | (refine plan_q rfl rfl ?_)))
              refine plan_e rfl ?_
              go_wp2_with fail
              refine MixPost.intro ⟨⟨_, trivial⟩, rfl⟩ ?_
              repeat (any_goals (first | (go_big_quiet_skip; refine wpQuiet_nil ?_) | (go_big_quiet_want; go_big_quiet_op; go_big_quiet_on; refine wpQuiet_nil ?_) | ((with_reducible apply q_split); exact rfl; intro q hq; cases q <;> (rw [hq]; (try first | replace hq := bnot_t hq | replace hq := bnot_f hq); (try first | replace hq := of_decide_eq_true hq | replace hq := of_decide_eq_false hq | replace hq := eq_of_beq hq); (try first | replace hq := Int.not_lt.1 hq | replace hq := Int.not_le.1 hq | replace hq := Nat.not_lt.1 hq | replace hq := Nat.not_le.1 hq); try (exfalso; omega))) | (refine plan_q rfl rfl ?_)))
              obtain ⟨W0, hW0⟩ : ∃ X, (wc.alloc (.cells #[.int .i64 s0, .int .i64 t0] 46)).drew = X := ⟨_, rfl⟩
              have HOX := Lib.hid (show OwnL W0 w.heap.size 46 2 cP _ (ys ++ zs) from hW0 ▸ OwnL.drew (HO2.out.alloc (.cells #[.int .i64 s0, .int .i64 t0] 46)))
              have HSX : Hid (Sl W0 2 cP (some ⟨wc.heap.size, 0, none⟩) 1 1 [(s0, t0)]) := Sl.one (x := (s0, t0)) cP_len (hW0 ▸ (Box.new wc (cP (s0, t0)) 46).drew)
              have HB_W0 : Below w.heap.size w W0 := hW0 ▸ (grew1 HB_wc).drew
              have hsz : w.heap.size ≤ W0.heap.size := HB_W0.size
              rw [hW0]
              clear hW0
              refine plan_e rfl ?_
              go_wp2_with (at_builtin; refine wpList_append_sl rfl _ _ 34 rfl w.heap.size 46 i0 _ 2 16 Try.underlying34 HI.out HZ0.out HZ1.out HZ2.out rfl (by decide) cP_len cP_one _ (ys ++ zs) rfl HOX.out (some ⟨wc.heap.size, 0, none⟩) 1 1 [(s0, t0)] rfl HSX.out (by unfold maxLen; omega) (by omega) hsz ?_)
              rintro v' w6 ho6 hg6 hgr6
              have HB_w6 : Below w.heap.size w w6 := HB_W0.trans (hg6 _ (Nat.le_refl _))
              have HO6 := Lib.hid ho6
              clear ho6 hg6 hgr6
              refine MixPost.intro ⟨⟨_, trivial⟩, rfl⟩ ?_
              repeat (any_goals (first | (go_big_quiet_skip; refine wpQuiet_nil ?_) | (go_big_quiet_want; go_big_quiet_op; go_big_quiet_on; refine wpQuiet_nil ?_) | ((with_reducible apply q_split); exact rfl; intro q hq; cases q <;> (rw [hq]; (try first | replace hq := bnot_t hq | replace hq := bnot_f hq); (try first | replace hq := of_decide_eq_true hq | replace hq := of_decide_eq_false hq | replace hq := eq_of_beq hq); (try first | replace hq := Int.not_lt.1 hq | replace hq := Int.not_le.1 hq | replace hq := Nat.not_lt.1 hq | replace hq := Nat.not_le.1 hq); try (exfalso; omega))) | (refine plan_q rfl rfl ?_)))
              refine plan_done ?_
              try simp only [List.drop_succ_cons, List.drop_zero]
              try go_wp2_with fail
              refine NoPanic.normal ?_
              try go_wp2_with fail
              clear y_n HOX HSX hsz e_0 f_0
              go_roundw
              case rel => exact ⟨j + 1, by omega, hlj, by go_num, HB_w6, by rw [HN.out]; exact HO6.out⟩
              case measure => simp [intOf]; omega
          · have HN := Lib.hid (show besQ l s0 ((l.drop (k + 1)).take (j + 1 - (k + 1))) = zs by rw [HST.out]; rfl)
            go_wp2_with fail
            go_roundw
            case rel => exact ⟨j + 1, by omega, hlj, by go_num, HB_wc, by rw [HN.out]; exact HO2.out⟩
            case measure => simp [intOf]; omega
        · obtain rfl : j = l.length := by omega
          rw [show l.length - (k + 1) = (l.drop (k + 1)).length by rw [List.length_drop], List.take_length] at HO
          go_wp2_with fail
          go_roundw
          case rel => exact ⟨k + 1, hlt, by go_num, HB_wr, by rw [HSUC.out]; exact HO.out⟩
          case measure => simp [intOf]; omega
    · obtain rfl : k = l.length := by omega
      obtain ⟨vo, vc, rfl, hss⟩ := HO.out.sl cP_len
      have HSS := Lib.hid hss
      clear HO hss
      go_wp2_with fail
      go_ret2
      exact ⟨_, _, _, by rw [HP.out]; rfl, by rw [HP.out]; exact HSS.out, HB_wr⟩
end Go.Proofs.Ytofilkphaelceaa
