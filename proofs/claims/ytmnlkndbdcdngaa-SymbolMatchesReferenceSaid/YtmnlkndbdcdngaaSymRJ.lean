/-
  The reference function Join of chapter 10.
-/
import Derived.Test.YtmnlkndbdcdngaaSymRI
namespace Go.Proofs.Ytmnlkndbdcdngaa
open Go.RowKit Sb Sk Go.Sort
set_option linter.unusedVariables false

/-- what Join returns, without the ownership -/
def JoinedB (w : World) (p : (Int × List Mk) × Int) (e : Ending) (w' : World) : Prop :=
  ∃ ao n cap, e = .returned (.tuple #[.agg #[.int .i64 p.1.1, .slice ao n cap], .int .i64 p.2]) ∧ Sl w' 3 cM ao n cap p.1.2 ∧ Below w.heap.size w w'




set_option maxRecDepth 100000 in
set_option maxHeartbeats 30000000 in
theorem rjoin_any (oa : Int) (aa : Option Addr) (na ca : Nat) (a : List Mk) (ob : Int) (ab : Option Addr) (nb cb : Nat) (b : List Mk) (w : World) (ha : Sl w 3 cM aa na ca a) (hb : Sl w 3 cM ab nb cb b) :
    Calls Try.prog 26 #[.agg #[.int .i64 oa, .slice aa na ca], .agg #[.int .i64 ob, .slice ab nb cb]] w (JoinedB w (join oa a ob b)) := by
  obtain rfl := ha.len
  obtain rfl := hb.len
  have hca := ha.max
  have hla := ha.le
  have hcb := hb.max
  have hlb := hb.le
  unfold maxLen at hca hcb
  obtain ⟨W0, hW0, HB_W0, hZ, hn, hm, hr⟩ := boxes3 w [.int .i64 oa, .slice aa a.length ca] [.int .i64 ob, .slice ab b.length cb] [.int .i64 0, .slice none 0 0] 24 24 24
  have H_a := Lib.hid hn
  have H_b := Lib.hid hm
  have H_r : Hid (Box W0 (w.heap.size + 1 + 1) 24 [.int .i64 0, .slice none 0 0]) := hr
  have HSA := Lib.hid (ha.below HB_W0)
  have HSB := Lib.hid (hb.below HB_W0)
  clear ha hb hn hm hr hZ
  have HBAD := Lib.hid (@join_bad oa ob a b)
  have HNONE := Lib.hid (@join_none oa ob a b)
  have HSOME := Lib.hid (fun l => @join_some oa ob a b l)
  generalize join oa a ob b = p at *
  obtain ⟨q_a_0, q_a_1⟩ := H_a.out.c2
  obtain ⟨q_b_0, q_b_1⟩ := H_b.out.c2
  go_enter Try.func26, Try.ntmps26
  go_wp2_with fail
  refine (rvalid_any _ _ _ _ a _ (by first | exact HSA.out | exact HSA.out.below (grew1 (Below.refl _ _)) | exact HSA.out.below (grew2 (Below.refl _ _)) | exact HSA.out.below (grew3 (Below.refl _ _)))).mono ?_
  rintro e wa ⟨rfl, hb_wa⟩
  have HB_wa : Below w.heap.size w wa := by first | exact after0 HB_W0 hb_wa | exact after1 HB_W0 hb_wa | exact after2 HB_W0 hb_wa | exact after3 HB_W0 hb_wa | exact after4 HB_W0 hb_wa | exact after5 HB_W0 hb_wa
  try clear q_a_0 q_a_1
  have H_a := Lib.hid (Box.below (by first | exact H_a.out | exact H_a.out.alloc _ | exact (H_a.out.alloc _).alloc _ | exact ((H_a.out.alloc _).alloc _).alloc _) hb_wa)
  obtain ⟨q_a_0, q_a_1⟩ := H_a.out.c2
  try clear q_b_0 q_b_1
  have H_b := Lib.hid (Box.below (by first | exact H_b.out | exact H_b.out.alloc _ | exact (H_b.out.alloc _).alloc _ | exact ((H_b.out.alloc _).alloc _).alloc _) hb_wa)
  obtain ⟨q_b_0, q_b_1⟩ := H_b.out.c2
  replace HSA := Lib.hid (show Sl wa _ _ _ _ _ _ by first | exact HSA.out.below hb_wa | exact (HSA.out.below (grew1 (Below.refl _ _))).below hb_wa | exact (HSA.out.below (grew2 (Below.refl _ _))).below hb_wa | exact (HSA.out.below (grew3 (Below.refl _ _))).below hb_wa)
  replace HSB := Lib.hid (show Sl wa _ _ _ _ _ _ by first | exact HSB.out.below hb_wa | exact (HSB.out.below (grew1 (Below.refl _ _))).below hb_wa | exact (HSB.out.below (grew2 (Below.refl _ _))).below hb_wa | exact (HSB.out.below (grew3 (Below.refl _ _))).below hb_wa)
  replace H_r := Lib.hid (H_r.out.below hb_wa)
  clear hW0
  cases h1 : okB oa a
  · have HP := Lib.hid (HBAD.out (by simp [h1]))
    have f1 := H_r.out.frozen
    obtain ⟨r_0, r_1⟩ := H_r.out.c2
    go_wp2_with fail
    try rw [Exit.noGoto_ret]
    obtain ⟨s0, s1⟩ := ((H_r.out.set 0 (.int .i64 0)).set 1 (.slice none 0 0)).c2
    refine bodyPost_ret (v := .tuple #[.agg #[.int .i64 0, .slice none 0 0], .int .i64 1]) (by simp [results, Try.results26, go_sem, s0, s1]) rfl ?_
    exact ⟨none, 0, 0, by rw [HP.out]; try rfl, by rw [HP.out]; exact Sl.nil, (HB_wa.setCell (p := ⟨w.heap.size + 1 + 1, 0, none⟩) (by simp; omega) _).setCell (p := ⟨w.heap.size + 1 + 1, 1, none⟩) (by simp; omega) _⟩
  go_wp2_with fail
  refine (rvalid_any _ _ _ _ b _ (by first | exact HSB.out | exact HSB.out.below (grew1 (Below.refl _ _)) | exact HSB.out.below (grew2 (Below.refl _ _)) | exact HSB.out.below (grew3 (Below.refl _ _)))).mono ?_
  rintro e wb ⟨rfl, hb_wb⟩
  have HB_wb : Below w.heap.size w wb := by first | exact after0 HB_wa hb_wb | exact after1 HB_wa hb_wb | exact after2 HB_wa hb_wb | exact after3 HB_wa hb_wb | exact after4 HB_wa hb_wb | exact after5 HB_wa hb_wb
  try clear q_a_0 q_a_1
  have H_a := Lib.hid (Box.below (by first | exact H_a.out | exact H_a.out.alloc _ | exact (H_a.out.alloc _).alloc _ | exact ((H_a.out.alloc _).alloc _).alloc _) hb_wb)
  obtain ⟨q_a_0, q_a_1⟩ := H_a.out.c2
  try clear q_b_0 q_b_1
  have H_b := Lib.hid (Box.below (by first | exact H_b.out | exact H_b.out.alloc _ | exact (H_b.out.alloc _).alloc _ | exact ((H_b.out.alloc _).alloc _).alloc _) hb_wb)
  obtain ⟨q_b_0, q_b_1⟩ := H_b.out.c2
  replace HSA := Lib.hid (show Sl wb _ _ _ _ _ _ by first | exact HSA.out.below hb_wb | exact (HSA.out.below (grew1 (Below.refl _ _))).below hb_wb | exact (HSA.out.below (grew2 (Below.refl _ _))).below hb_wb | exact (HSA.out.below (grew3 (Below.refl _ _))).below hb_wb)
  replace HSB := Lib.hid (show Sl wb _ _ _ _ _ _ by first | exact HSB.out.below hb_wb | exact (HSB.out.below (grew1 (Below.refl _ _))).below hb_wb | exact (HSB.out.below (grew2 (Below.refl _ _))).below hb_wb | exact (HSB.out.below (grew3 (Below.refl _ _))).below hb_wb)
  replace H_r := Lib.hid (H_r.out.below hb_wb)
  cases h2 : okB ob b
  · have HP := Lib.hid (HBAD.out (by simp [h2]))
    have f1 := H_r.out.frozen
    obtain ⟨r_0, r_1⟩ := H_r.out.c2
    go_wp2_with fail
    try rw [Exit.noGoto_ret]
    obtain ⟨s0, s1⟩ := ((H_r.out.set 0 (.int .i64 0)).set 1 (.slice none 0 0)).c2
    refine bodyPost_ret (v := .tuple #[.agg #[.int .i64 0, .slice none 0 0], .int .i64 1]) (by simp [results, Try.results26, go_sem, s0, s1]) rfl ?_
    exact ⟨none, 0, 0, by rw [HP.out]; try rfl, by rw [HP.out]; exact Sl.nil, (HB_wb.setCell (p := ⟨w.heap.size + 1 + 1, 0, none⟩) (by simp; omega) _).setCell (p := ⟨w.heap.size + 1 + 1, 1, none⟩) (by simp; omega) _⟩
  have h12 : (okB oa a && okB ob b) = true := by simp [h1, h2]
  have HNO := Lib.hid (HNONE.out h12)
  have HYE := Lib.hid (fun l => HSOME.out l h12)
  have HVA := Lib.hid (vok h1)
  have HVB := Lib.hid (vok h2)
  have HMGA := Lib.hid (show merge a b = merge (from_ a ((0 : Nat) : Int)) (from_ b ((0 : Nat) : Int)) by rw [show ((0 : Nat) : Int) = 0 from rfl, from_all HVA.out, from_all HVB.out])
  clear h1 h2 h12 HBAD HNONE HSOME
  obtain ⟨i0, hi, hz0, hz1, hz2⟩ := info_parts info_mark
  have HI := Lib.hid hi
  have HZ0 := Lib.hid hz0
  have HZ1 := Lib.hid hz1
  have HZ2 := Lib.hid hz2
  clear hi hz0 hz1 hz2
  go_wp2_with fail
  obtain ⟨W1, hW1, hB1, hZ1, hb1⟩ := boxes1 wb [.int .i64 oa, .slice none 0 0] 24
  obtain ⟨NO, hNO⟩ : ∃ N, wb.heap.size = N := ⟨_, rfl⟩
  have H_o : Hid (Box W1 NO 24 [.int .i64 oa, .slice none 0 0]) := hNO ▸ hb1
  have HRO : w.heap.size + 1 + 1 < wb.heap.size := H_r.out.lt
  have HZ1W : NO + 1 ≤ W1.heap.size := by omega
  have HNE : Hid (wb.heap.size = NO) := hNO
  rw [hW1, hNO]
  clear hb1 hNO hZ1 hW1 q_a_0 q_a_1 q_b_0 q_b_1
  go_loopw [7] (fun i wr => ∃ (k : Nat) (v : Value) (acc : List Mk), k ≤ 1000 ∧ i = .int .i64 k ∧ Below wb.heap.size wb wr ∧ NO + 1 ≤ wr.heap.size ∧ Hid (Box wr NO 24 [.int .i64 oa, v]) ∧ Hid (OwnL wr (NO + 1) 29 3 cM v acc) ∧
    Hid (merge a b = (merge (from_ a (k : Int)) (from_ b (k : Int))).map (acc ++ ·)) ∧ acc.length ≤ k) (fun i _ => 1000 - (intOf i).toNat)
  case atStart => exact ⟨0, _, [], by omega, rfl, hB1, HZ1W, H_o, OwnL.nil, by show _ = _; rw [HMGA.out]; simp, by simp⟩
  case round =>
    clear H_o HMGA
    obtain ⟨k, v, acc, hk, rfl, HB_wr, hZ_wr, H_o, HOW, HMG, hlen⟩ := hrel
    obtain ⟨vo, vc, rfl, _⟩ := HOW.out.sl cM_len
    by_cases hkl : k ≤ 999
    case neg =>
      obtain rfl : k = 1000 := by omega
      have HML := Lib.hid (show merge a b = some acc by rw [HMG.out, show ((1000 : Nat) : Int) = 1000 from rfl, from_end HVA.out, from_end HVB.out, merge_nil]; simp)
      have HP := Lib.hid (HYE.out acc HML.out)
      have H_rr := Lib.hid (H_r.out.below HB_wr)
      have HB_F : Below w.heap.size w wr := after0 HB_wb HB_wr
      have f3 := H_o.out.frozen
      have f4 := H_rr.out.frozen
      obtain ⟨q3_0, q3_1⟩ := H_o.out.c2
      obtain ⟨r3_0, r3_1⟩ := H_rr.out.c2
      by_cases h100 : 100 < acc.length
      · have HP2 := Lib.hid (HP.out.trans (if_pos h100))
        go_wp2_with fail
        try rw [Exit.noGoto_ret]
        obtain ⟨s0, s1⟩ := ((H_rr.out.set 0 (.int .i64 0)).set 1 (.slice none 0 0)).c2
        refine bodyPost_ret (v := .tuple #[.agg #[.int .i64 0, .slice none 0 0], .int .i64 2]) (by simp [results, Try.results26, go_sem, s0, s1]) rfl ?_
        exact ⟨none, 0, 0, by rw [HP2.out], by rw [HP2.out]; exact Sl.nil, (HB_F.setCell (p := ⟨w.heap.size + 1 + 1, 0, none⟩) (by simp; omega) _).setCell (p := ⟨w.heap.size + 1 + 1, 1, none⟩) (by simp; omega) _⟩
      · have HP2 := Lib.hid (HP.out.trans (if_neg h100))
        have h100' : acc.length ≤ 100 := by omega
        clear h100
        go_wp2_with fail
        try rw [Exit.noGoto_ret]
        obtain ⟨s0, s1⟩ := ((H_rr.out.set 0 (.int .i64 oa)).set 1 (.slice vo acc.length vc)).c2
        have HO5 := (HOW.out.setCell (b := w.heap.size + 1 + 1) (j := 0) (x := .int .i64 oa) (by have := HNE.out; omega)).setCell (b := w.heap.size + 1 + 1) (j := 1) (x := .slice vo acc.length vc) (by have := HNE.out; omega)
        obtain ⟨ao4, cap4, e4, hsl4⟩ := HO5.sl cM_len
        simp only [Value.slice.injEq] at e4
        obtain ⟨rfl, _, rfl⟩ := e4
        refine bodyPost_ret (v := .tuple #[.agg #[.int .i64 oa, .slice vo acc.length vc], .int .i64 0]) (by simp [results, Try.results26, go_sem, s0, s1]) rfl ?_
        exact ⟨vo, acc.length, vc, by rw [HP2.out], by rw [HP2.out]; exact hsl4, (HB_F.setCell (p := ⟨w.heap.size + 1 + 1, 0, none⟩) (by simp; omega) _).setCell (p := ⟨w.heap.size + 1 + 1, 1, none⟩) (by simp; omega) _⟩
    obtain ⟨q_a_0, q_a_1⟩ := (H_a.out.below HB_wr).c2
    obtain ⟨q_b_0, q_b_1⟩ := (H_b.out.below HB_wr).c2
    have HAT := Lib.hid (merge_at HVA.out HVB.out (k : Int))
    have HCA := Lib.hid (show ∀ W, Below wb.heap.size wb W → Calls Try.prog 33 #[.agg #[.int .i64 oa, .slice aa a.length ca], .int .i64 (k : Int)] W (Ret W (.int .i64 (placeI a (k : Int)))) from fun W hW => rplace_any _ _ _ _ _ _ _ (HSA.out.below hW))
    have HCB := Lib.hid (show ∀ W, Below wb.heap.size wb W → Calls Try.prog 33 #[.agg #[.int .i64 ob, .slice ab b.length cb], .int .i64 (k : Int)] W (Ret W (.int .i64 (placeI b (k : Int)))) from fun W hW => rplace_any _ _ _ _ _ _ _ (HSB.out.below hW))
    cases h1 : lookM a (k : Int) with
    | none =>
      rw [place_none h1] at HCA
      cases h2 : lookM b (k : Int) with
      | none =>
        rw [place_none h2] at HCB
        have HMG2 := Lib.hid (show merge a b = (merge (from_ a ((k + 1 : Nat) : Int)) (from_ b ((k + 1 : Nat) : Int))).map (acc ++ ·) by rw [HMG.out, HAT.out, h1, h2]; rfl)
        clear h1 h2
        go_wp2_with fail
        refine (HCA.out _ HB_wr).mono ?_
        rintro e w3 ⟨rfl, hb3⟩
        have HB_w3 := after0 HB_wr hb3
        replace H_o := Lib.hid (H_o.out.below hb3)
        replace HOW := Lib.hid (HOW.out.below hb3)
        have hZ_w3 : NO + 1 ≤ w3.heap.size := Nat.le_trans hZ_wr hb3.size
        clear q_a_0 q_a_1 q_b_0 q_b_1 hb3
        obtain ⟨q_a_0, q_a_1⟩ := (H_a.out.below HB_w3).c2
        obtain ⟨q_b_0, q_b_1⟩ := (H_b.out.below HB_w3).c2
        go_wp2_with fail
        refine (HCB.out _ HB_w3).mono ?_
        rintro e w4 ⟨rfl, hb4⟩
        have HB_w4 := after0 HB_w3 hb4
        replace H_o := Lib.hid (H_o.out.below hb4)
        replace HOW := Lib.hid (HOW.out.below hb4)
        have hZ_w4 : NO + 1 ≤ w4.heap.size := Nat.le_trans hZ_w3 hb4.size
        clear q_a_0 q_a_1 q_b_0 q_b_1 hb4
        obtain ⟨q_a_0, q_a_1⟩ := (H_a.out.below HB_w4).c2
        obtain ⟨q_b_0, q_b_1⟩ := (H_b.out.below HB_w4).c2
        go_wp2_with fail
        clear q_a_0 q_a_1 q_b_0 q_b_1
        refine wp_region_plan (C := fun w' => ∃ p : Regrown, w' = grow (redrawn w4 p.d) p.os) (.q 0 (.q 1 (.q 2 (.q 3 (.q 4 (.q 5 (.q 6 (.q 7 (.q 8 (.q 9 (.q 10 (.q 11 (.q 12 (.q 13 (.q 14 (.q 15 (.q 16 (.q 17 (.q 18 (.q 19 (.q 20 (.done)))))))))))))))))))))) 21 (by kernel_rfl) (by kernel_rfl) (grew_drew _) ?_
        repeat (any_goals (first | (go_big_quiet_skip; refine wpQuiet_nil ?_) | (go_big_quiet_want; go_big_quiet_op; go_big_quiet_on; refine wpQuiet_nil ?_) | ((with_reducible apply q_split); exact rfl; intro q hq; cases q <;> (rw [hq]; (try first | replace hq := bnot_t hq | replace hq := bnot_f hq); (try first | replace hq := of_decide_eq_true hq | replace hq := of_decide_eq_false hq | replace hq := eq_of_beq hq); (try first | replace hq := Int.not_lt.1 hq | replace hq := Int.not_le.1 hq | replace hq := Nat.not_lt.1 hq | replace hq := Nat.not_le.1 hq); try (exfalso; omega))) | (refine plan_q rfl rfl ?_)))
        all_goals refine plan_done ?_
        all_goals (try simp only [List.drop_succ_cons, List.drop_zero])
        all_goals (try go_wp2_with fail)
        all_goals refine NoPanic.normal ?_
        all_goals (try go_wp2_with fail)
        obtain ⟨W5, hd_W5⟩ : ∃ W2, w4.drew = W2 := ⟨_, rfl⟩
        first | rw [hd_W5] | rw [show ({ w4 with drawn := w4.drawn + 1 } : World) = W5 from hd_W5]
        have hdb : Below w4.heap.size w4 W5 := hd_W5 ▸ (Below.refl _ _).drew
        have HB_W5 : Below wb.heap.size wb W5 := after0 HB_w4 hdb
        replace H_o := Lib.hid (H_o.out.below hdb)
        replace HOW := Lib.hid (HOW.out.below hdb)
        have hZ_W5 : NO + 1 ≤ W5.heap.size := Nat.le_trans hZ_w4 hdb.size
        clear hdb hd_W5
        refine wp_region_plan (C := fun w' => ∃ p : Regrown, w' = grow (redrawn W5 p.d) p.os) (.q 0 (.q 1 (.q 2 (.q 3 (.q 4 (.q 5 (.q 6 (.q 7 (.q 8 (.q 9 (.q 10 (.q 11 (.q 12 (.q 13 (.q 14 (.q 15 (.q 16 (.q 17 (.q 18 (.q 19 (.q 20 (.done)))))))))))))))))))))) 21 (by kernel_rfl) (by kernel_rfl) (grew_drew _) ?_
        repeat (any_goals (first | (go_big_quiet_skip; refine wpQuiet_nil ?_) | (go_big_quiet_want; go_big_quiet_op; go_big_quiet_on; refine wpQuiet_nil ?_) | ((with_reducible apply q_split); exact rfl; intro q hq; cases q <;> (rw [hq]; (try first | replace hq := bnot_t hq | replace hq := bnot_f hq); (try first | replace hq := of_decide_eq_true hq | replace hq := of_decide_eq_false hq | replace hq := eq_of_beq hq); (try first | replace hq := Int.not_lt.1 hq | replace hq := Int.not_le.1 hq | replace hq := Nat.not_lt.1 hq | replace hq := Nat.not_le.1 hq); try (exfalso; omega))) | (refine plan_q rfl rfl ?_)))
        all_goals refine plan_done ?_
        all_goals (try simp only [List.drop_succ_cons, List.drop_zero])
        all_goals (try go_wp2_with fail)
        all_goals refine NoPanic.normal ?_
        all_goals (try go_wp2_with fail)
        go_roundw
        case rel => exact ⟨k + 1, _, acc, by omega, by go_num, HB_W5.drew, hZ_W5, H_o.out.drew, HOW.out.drew, HMG2, by omega⟩
        case measure => simp [intOf]; omega
      | some y =>
        obtain ⟨i, hi, hpi, hyi⟩ := place_some h2
        rw [hpi] at HCB
        obtain ⟨yb, yf, rfl, hyb, hyrow⟩ := HSB.out.get hi
        have HYR : Hid (Cells wb yb (yf + i * 3) (cM y)) := by
          have := hyrow i hi
          rw [hyi] at this
          exact this
        have HMG2 := Lib.hid (show merge a b = (merge (from_ a ((k + 1 : Nat) : Int)) (from_ b ((k + 1 : Nat) : Int))).map ((acc ++ [y]) ++ ·) by rw [HMG.out, HAT.out, h1, h2]; exact map_snoc _)
        clear h1 h2 hpi hyi hyrow
        go_wp2_with fail
        refine (HCA.out _ HB_wr).mono ?_
        rintro e w3 ⟨rfl, hb3⟩
        have HB_w3 := after0 HB_wr hb3
        replace H_o := Lib.hid (H_o.out.below hb3)
        replace HOW := Lib.hid (HOW.out.below hb3)
        have hZ_w3 : NO + 1 ≤ w3.heap.size := Nat.le_trans hZ_wr hb3.size
        clear q_a_0 q_a_1 q_b_0 q_b_1 hb3
        obtain ⟨q_a_0, q_a_1⟩ := (H_a.out.below HB_w3).c2
        obtain ⟨q_b_0, q_b_1⟩ := (H_b.out.below HB_w3).c2
        go_wp2_with fail
        refine (HCB.out _ HB_w3).mono ?_
        rintro e w4 ⟨rfl, hb4⟩
        have HB_w4 := after0 HB_w3 hb4
        replace H_o := Lib.hid (H_o.out.below hb4)
        replace HOW := Lib.hid (HOW.out.below hb4)
        have hZ_w4 : NO + 1 ≤ w4.heap.size := Nat.le_trans hZ_w3 hb4.size
        clear q_a_0 q_a_1 q_b_0 q_b_1 hb4
        obtain ⟨q_a_0, q_a_1⟩ := (H_a.out.below HB_w4).c2
        obtain ⟨q_b_0, q_b_1⟩ := (H_b.out.below HB_w4).c2
        go_wp2_with fail
        clear q_a_0 q_a_1 q_b_0 q_b_1
        refine wp_region_plan (C := fun w' => ∃ p : Regrown, w' = grow (redrawn w4 p.d) p.os) (.q 0 (.q 1 (.q 2 (.q 3 (.q 4 (.q 5 (.q 6 (.q 7 (.q 8 (.q 9 (.q 10 (.q 11 (.q 12 (.q 13 (.q 14 (.q 15 (.q 16 (.q 17 (.q 18 (.q 19 (.q 20 (.done)))))))))))))))))))))) 21 (by kernel_rfl) (by kernel_rfl) (grew_drew _) ?_
        repeat (any_goals (first | (go_big_quiet_skip; refine wpQuiet_nil ?_) | (go_big_quiet_want; go_big_quiet_op; go_big_quiet_on; refine wpQuiet_nil ?_) | ((with_reducible apply q_split); exact rfl; intro q hq; cases q <;> (rw [hq]; (try first | replace hq := bnot_t hq | replace hq := bnot_f hq); (try first | replace hq := of_decide_eq_true hq | replace hq := of_decide_eq_false hq | replace hq := eq_of_beq hq); (try first | replace hq := Int.not_lt.1 hq | replace hq := Int.not_le.1 hq | replace hq := Nat.not_lt.1 hq | replace hq := Nat.not_le.1 hq); try (exfalso; omega))) | (refine plan_q rfl rfl ?_)))
        all_goals refine plan_done ?_
        all_goals (try simp only [List.drop_succ_cons, List.drop_zero])
        all_goals (try go_wp2_with fail)
        all_goals refine NoPanic.normal ?_
        all_goals (try go_wp2_with fail)
        obtain ⟨W5, hd_W5⟩ : ∃ W2, w4.drew = W2 := ⟨_, rfl⟩
        first | rw [hd_W5] | rw [show ({ w4 with drawn := w4.drawn + 1 } : World) = W5 from hd_W5]
        have hdb : Below w4.heap.size w4 W5 := hd_W5 ▸ (Below.refl _ _).drew
        have HB_W5 : Below wb.heap.size wb W5 := after0 HB_w4 hdb
        replace H_o := Lib.hid (H_o.out.below hdb)
        replace HOW := Lib.hid (HOW.out.below hdb)
        have hZ_W5 : NO + 1 ≤ W5.heap.size := Nat.le_trans hZ_w4 hdb.size
        clear hdb hd_W5
        refine wp_region_plan (C := fun w' => ∃ p : Regrown, w' = grow (redrawn W5 p.d) p.os) (.q 0 (.q 1 (.q 2 (.q 3 (.q 4 (.q 5 (.q 6 (.q 7 (.q 8 (.q 9 (.q 10 (.q 11 (.q 12 (.q 13 (.q 14 (.q 15 (.q 16 (.q 17 (.q 18 (.q 19 (.q 20 (.done)))))))))))))))))))))) 21 (by kernel_rfl) (by kernel_rfl) (grew_drew _) ?_
        repeat (any_goals (first | (go_big_quiet_skip; refine wpQuiet_nil ?_) | (go_big_quiet_want; go_big_quiet_op; go_big_quiet_on; refine wpQuiet_nil ?_) | ((with_reducible apply q_split); exact rfl; intro q hq; cases q <;> (rw [hq]; (try first | replace hq := bnot_t hq | replace hq := bnot_f hq); (try first | replace hq := of_decide_eq_true hq | replace hq := of_decide_eq_false hq | replace hq := eq_of_beq hq); (try first | replace hq := Int.not_lt.1 hq | replace hq := Int.not_le.1 hq | replace hq := Nat.not_lt.1 hq | replace hq := Nat.not_le.1 hq); try (exfalso; omega))) | (refine plan_q rfl rfl ?_)))
        all_goals refine plan_done ?_
        all_goals (try simp only [List.drop_succ_cons, List.drop_zero])
        all_goals (try go_wp2_with fail)
        all_goals refine NoPanic.normal ?_
        all_goals (try go_wp2_with fail)
        obtain ⟨Wc, hd_Wc⟩ : ∃ W2, W5.drew = W2 := ⟨_, rfl⟩
        first | rw [hd_Wc] | rw [show ({ W5 with drawn := W5.drawn + 1 } : World) = Wc from hd_Wc]
        have hdb : Below W5.heap.size W5 Wc := hd_Wc ▸ (Below.refl _ _).drew
        have HB_Wc : Below wb.heap.size wb Wc := after0 HB_W5 hdb
        replace H_o := Lib.hid (H_o.out.below hdb)
        replace HOW := Lib.hid (HOW.out.below hdb)
        have hZ_Wc : NO + 1 ≤ Wc.heap.size := Nat.le_trans hZ_W5 hdb.size
        clear hdb hd_Wc
        obtain ⟨q_a_0, q_a_1⟩ := (H_a.out.below HB_Wc).c2
        obtain ⟨q_b_0, q_b_1⟩ := (H_b.out.below HB_Wc).c2
        obtain ⟨d_0, d_1, d_2⟩ := (HYR.out.below HB_Wc hyb).c3
        obtain ⟨NX, hNX⟩ : ∃ N, Wc.heap.size = N := ⟨_, rfl⟩
        obtain ⟨W3, hW3⟩ : ∃ W3, (Wc.alloc (.cells #[.int .i64 y.sy, .int .i64 y.kd, .int .i64 y.cl] 29)).drew = W3 := ⟨_, rfl⟩
        have hb3 : Below Wc.heap.size Wc W3 := hW3 ▸ (grew1 (Below.refl _ _)).drew
        have HB_W3 : Below wb.heap.size wb W3 := after0 HB_Wc hb3
        have H_o3 := Lib.hid (H_o.out.below hb3)
        have HOW3 := Lib.hid (HOW.out.below hb3)
        have HX3 : Hid (Sl W3 3 cM (some ⟨NX, 0, none⟩) 1 1 [y]) := by
          have h := (Sl.one (x := y) cM_len (Box.new Wc (cM y) 29)).below (Below.refl _ _).drew
          rw [hNX] at h
          rw [← hW3]; exact h
        have hZ3 : NO + 1 ≤ W3.heap.size := Nat.le_trans hZ_Wc hb3.size
        obtain ⟨q_o_0, q_o_1⟩ := H_o.out.c2
        obtain ⟨q3_0, q3_1⟩ := H_o3.out.c2
        refine wp_region_plan (C := fun _ => True) (.q 0 (.q 2 (.q 4 (.two 1 (.e 3 (.q 5 (.e 6 (.e 7 (.e 8 (.q 9 (.e 10 (.done)))))))) 3 (.q 5 (.two 1 (.e 6 (.e 7 (.e 8 (.q 9 (.e 10 (.done)))))) 6 (.two 1 (.e 7 (.e 8 (.q 9 (.e 10 (.done))))) 7 (.e 1 (.e 8 (.q 9 (.e 10 (.done)))))))))))) 11 (by kernel_rfl) (by kernel_rfl) trivial ?_
        repeat (any_goals (first | (go_big_quiet_skip; refine wpQuiet_nil ?_) | (go_big_quiet_want; go_big_quiet_op; go_big_quiet_on; refine wpQuiet_nil ?_) | ((with_reducible apply q_split); exact rfl; intro q hq; cases q <;> (rw [hq]; (try first | replace hq := bnot_t hq | replace hq := bnot_f hq); (try first | replace hq := of_decide_eq_true hq | replace hq := of_decide_eq_false hq | replace hq := eq_of_beq hq); (try first | replace hq := Int.not_lt.1 hq | replace hq := Int.not_le.1 hq | replace hq := Nat.not_lt.1 hq | replace hq := Nat.not_le.1 hq); try (exfalso; omega))) | (refine plan_q rfl rfl ?_) | (refine plan_e rfl ?_; go_wp2_with fail; refine MixPost.intro trivial ?_) | (refine plan_two rfl rfl ?_ ?_) | (refine plan_three rfl rfl rfl ?_ ?_ ?_) | ((with_reducible refine wpl_id ?_); go_wp2_with fail; refine MixPost.intro trivial ?_)))
        all_goals
          refine plan_e rfl ?_
          go_wp2_with (at_builtin; refine wpList_append_sl rfl _ _ 22 rfl (NO + 1) 29 i0 _ 3 24 Try.underlying22 HI.out HZ0.out HZ1.out HZ2.out rfl (by decide) cM_len cM_one _ acc rfl HOW3.out (some ⟨NX, 0, none⟩) 1 1 [y] rfl HX3.out (by unfold maxLen; omega) (by omega) hZ3 ?_)
          rintro v5 w5 ho5 hg5 hgr5
          obtain ⟨ao5, cap5, rfl, _⟩ := ho5.sl cM_len
          rw [show (acc ++ [y]).length = acc.length + 1 by simp] at ho5 ⊢
          have H_o5 := Lib.hid (H_o3.out.grown hgr5 (fun e => by have := (HOW3.out.row NO e.symm).1; omega))
          have HB_w5 : Below wb.heap.size wb w5 := HB_W3.trans (hg5 _ (by have := HNE.out; omega))
          have hZ5 : NO + 1 ≤ w5.heap.size := Nat.le_trans hZ3 hgr5.size
          have HO5 := Lib.hid ho5
          have f5 := H_o5.out.frozen
          obtain ⟨q5_0, q5_1⟩ := H_o5.out.c2
          refine MixPost.intro trivial ?_
          clear hg5 hgr5 ho5
          repeat (any_goals (first | (go_big_quiet_skip; refine wpQuiet_nil ?_) | (go_big_quiet_want; go_big_quiet_op; go_big_quiet_on; refine wpQuiet_nil ?_) | ((with_reducible apply q_split); exact rfl; intro q hq; cases q <;> (rw [hq]; (try first | replace hq := bnot_t hq | replace hq := bnot_f hq); (try first | replace hq := of_decide_eq_true hq | replace hq := of_decide_eq_false hq | replace hq := eq_of_beq hq); (try first | replace hq := Int.not_lt.1 hq | replace hq := Int.not_le.1 hq | replace hq := Nat.not_lt.1 hq | replace hq := Nat.not_le.1 hq); try (exfalso; omega))) | (refine plan_q rfl rfl ?_) | (refine plan_e rfl ?_; go_wp2_with fail; refine MixPost.intro trivial ?_) | (refine plan_two rfl rfl ?_ ?_) | (refine plan_three rfl rfl rfl ?_ ?_ ?_) | ((with_reducible refine wpl_id ?_); go_wp2_with fail; refine MixPost.intro trivial ?_)))
          refine plan_done ?_
          try simp only [List.drop_succ_cons, List.drop_zero]
          try go_wp2_with fail
          refine NoPanic.normal ?_
          try go_wp2_with fail
          go_roundw
          case rel => exact ⟨k + 1, _, acc ++ [y], by omega, by go_num, HB_w5.setCell (p := ⟨NO, 1, none⟩) (by have := HNE.out; dsimp only; omega) _, by simpa [World.size_setCell] using hZ5, Lib.hid (H_o5.out.set 1 _), Lib.hid (HO5.out.setCell (b := NO) (j := 1) (by omega)), HMG2, by simp; omega⟩
          case measure => simp [intOf]; omega
    | some x =>
      obtain ⟨j, hj, hpj, hxj⟩ := place_some h1
      rw [hpj] at HCA
      obtain ⟨xb, xf, rfl, hxb, hxrow⟩ := HSA.out.get hj
      have HXR : Hid (Cells wb xb (xf + j * 3) (cM x)) := by
        have := hxrow j hj
        rw [hxj] at this
        exact this
      clear hpj hxj hxrow
      cases h2 : lookM b (k : Int) with
      | none =>
        rw [place_none h2] at HCB
        have HMG2 := Lib.hid (show merge a b = (merge (from_ a ((k + 1 : Nat) : Int)) (from_ b ((k + 1 : Nat) : Int))).map ((acc ++ [x]) ++ ·) by rw [HMG.out, HAT.out, h1, h2]; exact map_snoc _)
        clear h1 h2
        go_wp2_with fail
        refine (HCA.out _ HB_wr).mono ?_
        rintro e w3 ⟨rfl, hb3⟩
        have HB_w3 := after0 HB_wr hb3
        replace H_o := Lib.hid (H_o.out.below hb3)
        replace HOW := Lib.hid (HOW.out.below hb3)
        have hZ_w3 : NO + 1 ≤ w3.heap.size := Nat.le_trans hZ_wr hb3.size
        clear q_a_0 q_a_1 q_b_0 q_b_1 hb3
        obtain ⟨q_a_0, q_a_1⟩ := (H_a.out.below HB_w3).c2
        obtain ⟨q_b_0, q_b_1⟩ := (H_b.out.below HB_w3).c2
        go_wp2_with fail
        refine (HCB.out _ HB_w3).mono ?_
        rintro e w4 ⟨rfl, hb4⟩
        have HB_w4 := after0 HB_w3 hb4
        replace H_o := Lib.hid (H_o.out.below hb4)
        replace HOW := Lib.hid (HOW.out.below hb4)
        have hZ_w4 : NO + 1 ≤ w4.heap.size := Nat.le_trans hZ_w3 hb4.size
        clear q_a_0 q_a_1 q_b_0 q_b_1 hb4
        obtain ⟨q_a_0, q_a_1⟩ := (H_a.out.below HB_w4).c2
        obtain ⟨q_b_0, q_b_1⟩ := (H_b.out.below HB_w4).c2
        go_wp2_with fail
        clear q_a_0 q_a_1 q_b_0 q_b_1
        refine wp_region_plan (C := fun w' => ∃ p : Regrown, w' = grow (redrawn w4 p.d) p.os) (.q 0 (.q 1 (.q 2 (.q 3 (.q 4 (.q 5 (.q 6 (.q 7 (.q 8 (.q 9 (.q 10 (.q 11 (.q 12 (.q 13 (.q 14 (.q 15 (.q 16 (.q 17 (.q 18 (.q 19 (.q 20 (.done)))))))))))))))))))))) 21 (by kernel_rfl) (by kernel_rfl) (grew_drew _) ?_
        repeat (any_goals (first | (go_big_quiet_skip; refine wpQuiet_nil ?_) | (go_big_quiet_want; go_big_quiet_op; go_big_quiet_on; refine wpQuiet_nil ?_) | ((with_reducible apply q_split); exact rfl; intro q hq; cases q <;> (rw [hq]; (try first | replace hq := bnot_t hq | replace hq := bnot_f hq); (try first | replace hq := of_decide_eq_true hq | replace hq := of_decide_eq_false hq | replace hq := eq_of_beq hq); (try first | replace hq := Int.not_lt.1 hq | replace hq := Int.not_le.1 hq | replace hq := Nat.not_lt.1 hq | replace hq := Nat.not_le.1 hq); try (exfalso; omega))) | (refine plan_q rfl rfl ?_)))
        all_goals refine plan_done ?_
        all_goals (try simp only [List.drop_succ_cons, List.drop_zero])
        all_goals (try go_wp2_with fail)
        all_goals refine NoPanic.normal ?_
        all_goals (try go_wp2_with fail)
        obtain ⟨W5, hd_W5⟩ : ∃ W2, w4.drew = W2 := ⟨_, rfl⟩
        first | rw [hd_W5] | rw [show ({ w4 with drawn := w4.drawn + 1 } : World) = W5 from hd_W5]
        have hdb : Below w4.heap.size w4 W5 := hd_W5 ▸ (Below.refl _ _).drew
        have HB_W5 : Below wb.heap.size wb W5 := after0 HB_w4 hdb
        replace H_o := Lib.hid (H_o.out.below hdb)
        replace HOW := Lib.hid (HOW.out.below hdb)
        have hZ_W5 : NO + 1 ≤ W5.heap.size := Nat.le_trans hZ_w4 hdb.size
        clear hdb hd_W5
        refine wp_region_plan (C := fun w' => ∃ p : Regrown, w' = grow (redrawn W5 p.d) p.os) (.q 0 (.q 1 (.q 2 (.q 3 (.q 4 (.q 5 (.q 6 (.q 7 (.q 8 (.q 9 (.q 10 (.q 11 (.q 12 (.q 13 (.q 14 (.q 15 (.q 16 (.q 17 (.q 18 (.q 19 (.q 20 (.done)))))))))))))))))))))) 21 (by kernel_rfl) (by kernel_rfl) (grew_drew _) ?_
        repeat (any_goals (first | (go_big_quiet_skip; refine wpQuiet_nil ?_) | (go_big_quiet_want; go_big_quiet_op; go_big_quiet_on; refine wpQuiet_nil ?_) | ((with_reducible apply q_split); exact rfl; intro q hq; cases q <;> (rw [hq]; (try first | replace hq := bnot_t hq | replace hq := bnot_f hq); (try first | replace hq := of_decide_eq_true hq | replace hq := of_decide_eq_false hq | replace hq := eq_of_beq hq); (try first | replace hq := Int.not_lt.1 hq | replace hq := Int.not_le.1 hq | replace hq := Nat.not_lt.1 hq | replace hq := Nat.not_le.1 hq); try (exfalso; omega))) | (refine plan_q rfl rfl ?_)))
        all_goals refine plan_done ?_
        all_goals (try simp only [List.drop_succ_cons, List.drop_zero])
        all_goals (try go_wp2_with fail)
        all_goals refine NoPanic.normal ?_
        all_goals (try go_wp2_with fail)
        obtain ⟨Wc, hd_Wc⟩ : ∃ W2, W5.drew = W2 := ⟨_, rfl⟩
        first | rw [hd_Wc] | rw [show ({ W5 with drawn := W5.drawn + 1 } : World) = Wc from hd_Wc]
        have hdb : Below W5.heap.size W5 Wc := hd_Wc ▸ (Below.refl _ _).drew
        have HB_Wc : Below wb.heap.size wb Wc := after0 HB_W5 hdb
        replace H_o := Lib.hid (H_o.out.below hdb)
        replace HOW := Lib.hid (HOW.out.below hdb)
        have hZ_Wc : NO + 1 ≤ Wc.heap.size := Nat.le_trans hZ_W5 hdb.size
        clear hdb hd_Wc
        obtain ⟨q_a_0, q_a_1⟩ := (H_a.out.below HB_Wc).c2
        obtain ⟨q_b_0, q_b_1⟩ := (H_b.out.below HB_Wc).c2
        obtain ⟨e_0, e_1, e_2⟩ := (HXR.out.below HB_Wc hxb).c3
        obtain ⟨NX, hNX⟩ : ∃ N, Wc.heap.size = N := ⟨_, rfl⟩
        obtain ⟨W3, hW3⟩ : ∃ W3, (Wc.alloc (.cells #[.int .i64 x.sy, .int .i64 x.kd, .int .i64 x.cl] 29)).drew = W3 := ⟨_, rfl⟩
        have hb3 : Below Wc.heap.size Wc W3 := hW3 ▸ (grew1 (Below.refl _ _)).drew
        have HB_W3 : Below wb.heap.size wb W3 := after0 HB_Wc hb3
        have H_o3 := Lib.hid (H_o.out.below hb3)
        have HOW3 := Lib.hid (HOW.out.below hb3)
        have HX3 : Hid (Sl W3 3 cM (some ⟨NX, 0, none⟩) 1 1 [x]) := by
          have h := (Sl.one (x := x) cM_len (Box.new Wc (cM x) 29)).below (Below.refl _ _).drew
          rw [hNX] at h
          rw [← hW3]; exact h
        have hZ3 : NO + 1 ≤ W3.heap.size := Nat.le_trans hZ_Wc hb3.size
        obtain ⟨q_o_0, q_o_1⟩ := H_o.out.c2
        obtain ⟨q3_0, q3_1⟩ := H_o3.out.c2
        refine wp_region_plan (C := fun _ => True) (.q 0 (.q 2 (.q 4 (.two 1 (.e 3 (.q 5 (.e 6 (.e 7 (.e 8 (.q 9 (.e 10 (.done)))))))) 3 (.q 5 (.two 1 (.e 6 (.e 7 (.e 8 (.q 9 (.e 10 (.done)))))) 6 (.two 1 (.e 7 (.e 8 (.q 9 (.e 10 (.done))))) 7 (.e 1 (.e 8 (.q 9 (.e 10 (.done)))))))))))) 11 (by kernel_rfl) (by kernel_rfl) trivial ?_
        repeat (any_goals (first | (go_big_quiet_skip; refine wpQuiet_nil ?_) | (go_big_quiet_want; go_big_quiet_op; go_big_quiet_on; refine wpQuiet_nil ?_) | ((with_reducible apply q_split); exact rfl; intro q hq; cases q <;> (rw [hq]; (try first | replace hq := bnot_t hq | replace hq := bnot_f hq); (try first | replace hq := of_decide_eq_true hq | replace hq := of_decide_eq_false hq | replace hq := eq_of_beq hq); (try first | replace hq := Int.not_lt.1 hq | replace hq := Int.not_le.1 hq | replace hq := Nat.not_lt.1 hq | replace hq := Nat.not_le.1 hq); try (exfalso; omega))) | (refine plan_q rfl rfl ?_) | (refine plan_e rfl ?_; go_wp2_with fail; refine MixPost.intro trivial ?_) | (refine plan_two rfl rfl ?_ ?_) | (refine plan_three rfl rfl rfl ?_ ?_ ?_) | ((with_reducible refine wpl_id ?_); go_wp2_with fail; refine MixPost.intro trivial ?_)))
        all_goals
          refine plan_e rfl ?_
          go_wp2_with (at_builtin; refine wpList_append_sl rfl _ _ 22 rfl (NO + 1) 29 i0 _ 3 24 Try.underlying22 HI.out HZ0.out HZ1.out HZ2.out rfl (by decide) cM_len cM_one _ acc rfl HOW3.out (some ⟨NX, 0, none⟩) 1 1 [x] rfl HX3.out (by unfold maxLen; omega) (by omega) hZ3 ?_)
          rintro v5 w5 ho5 hg5 hgr5
          obtain ⟨ao5, cap5, rfl, _⟩ := ho5.sl cM_len
          rw [show (acc ++ [x]).length = acc.length + 1 by simp] at ho5 ⊢
          have H_o5 := Lib.hid (H_o3.out.grown hgr5 (fun e => by have := (HOW3.out.row NO e.symm).1; omega))
          have HB_w5 : Below wb.heap.size wb w5 := HB_W3.trans (hg5 _ (by have := HNE.out; omega))
          have hZ5 : NO + 1 ≤ w5.heap.size := Nat.le_trans hZ3 hgr5.size
          have HO5 := Lib.hid ho5
          have f5 := H_o5.out.frozen
          obtain ⟨q5_0, q5_1⟩ := H_o5.out.c2
          refine MixPost.intro trivial ?_
          clear hg5 hgr5 ho5
          repeat (any_goals (first | (go_big_quiet_skip; refine wpQuiet_nil ?_) | (go_big_quiet_want; go_big_quiet_op; go_big_quiet_on; refine wpQuiet_nil ?_) | ((with_reducible apply q_split); exact rfl; intro q hq; cases q <;> (rw [hq]; (try first | replace hq := bnot_t hq | replace hq := bnot_f hq); (try first | replace hq := of_decide_eq_true hq | replace hq := of_decide_eq_false hq | replace hq := eq_of_beq hq); (try first | replace hq := Int.not_lt.1 hq | replace hq := Int.not_le.1 hq | replace hq := Nat.not_lt.1 hq | replace hq := Nat.not_le.1 hq); try (exfalso; omega))) | (refine plan_q rfl rfl ?_) | (refine plan_e rfl ?_; go_wp2_with fail; refine MixPost.intro trivial ?_) | (refine plan_two rfl rfl ?_ ?_) | (refine plan_three rfl rfl rfl ?_ ?_ ?_) | ((with_reducible refine wpl_id ?_); go_wp2_with fail; refine MixPost.intro trivial ?_)))
          refine plan_done ?_
          try simp only [List.drop_succ_cons, List.drop_zero]
          try go_wp2_with fail
          refine NoPanic.normal ?_
          try go_wp2_with fail
          go_roundw
          case rel => exact ⟨k + 1, _, acc ++ [x], by omega, by go_num, HB_w5.setCell (p := ⟨NO, 1, none⟩) (by have := HNE.out; dsimp only; omega) _, by simpa [World.size_setCell] using hZ5, Lib.hid (H_o5.out.set 1 _), Lib.hid (HO5.out.setCell (b := NO) (j := 1) (by omega)), HMG2, by simp; omega⟩
          case measure => simp [intOf]; omega
      | some y =>
        obtain ⟨i, hi, hpi, hyi⟩ := place_some h2
        rw [hpi] at HCB
        obtain ⟨yb, yf, rfl, hyb, hyrow⟩ := HSB.out.get hi
        have HYR : Hid (Cells wb yb (yf + i * 3) (cM y)) := by
          have := hyrow i hi
          rw [hyi] at this
          exact this
        clear hpi hyi hyrow
        by_cases hk0 : x.kd = y.kd
        case neg =>
          have HP := Lib.hid (HNO.out (by rw [HMG.out, HAT.out, h1, h2]; simp only []; rw [if_pos hk0]; rfl))
          have hk' : (x.kd != y.kd) = true := bne_iff_ne.2 hk0
          clear h1 h2 hk0
          go_wp2_with fail
          refine (HCA.out _ HB_wr).mono ?_
          rintro e w3 ⟨rfl, hb3⟩
          have HB_w3 := after0 HB_wr hb3
          replace H_o := Lib.hid (H_o.out.below hb3)
          replace HOW := Lib.hid (HOW.out.below hb3)
          have hZ_w3 : NO + 1 ≤ w3.heap.size := Nat.le_trans hZ_wr hb3.size
          clear q_a_0 q_a_1 q_b_0 q_b_1 hb3
          obtain ⟨q_a_0, q_a_1⟩ := (H_a.out.below HB_w3).c2
          obtain ⟨q_b_0, q_b_1⟩ := (H_b.out.below HB_w3).c2
          go_wp2_with fail
          refine (HCB.out _ HB_w3).mono ?_
          rintro e w4 ⟨rfl, hb4⟩
          have HB_w4 := after0 HB_w3 hb4
          replace H_o := Lib.hid (H_o.out.below hb4)
          replace HOW := Lib.hid (HOW.out.below hb4)
          have hZ_w4 : NO + 1 ≤ w4.heap.size := Nat.le_trans hZ_w3 hb4.size
          clear q_a_0 q_a_1 q_b_0 q_b_1 hb4
          obtain ⟨q_a_0, q_a_1⟩ := (H_a.out.below HB_w4).c2
          obtain ⟨q_b_0, q_b_1⟩ := (H_b.out.below HB_w4).c2
          go_wp2_with fail
          have H_rr := Lib.hid (H_r.out.below HB_w4)
          have HB_F : Below w.heap.size w w4 := after0 HB_wb HB_w4
          obtain ⟨e_0, e_1, e_2⟩ := (HXR.out.below HB_w4 hxb).c3
          obtain ⟨d_0, d_1, d_2⟩ := (HYR.out.below HB_w4 hyb).c3
          have y_q_a_0 := cell_regrown q_a_0
          have y_q_a_1 := cell_regrown q_a_1
          clear q_a_0 q_a_1
          have y_q_b_0 := cell_regrown q_b_0
          have y_q_b_1 := cell_regrown q_b_1
          clear q_b_0 q_b_1
          have y_e_0 := cell_regrown e_0
          have y_e_1 := cell_regrown e_1
          have y_e_2 := cell_regrown e_2
          clear e_0 e_1 e_2
          have y_d_0 := cell_regrown d_0
          have y_d_1 := cell_regrown d_1
          have y_d_2 := cell_regrown d_2
          clear d_0 d_1 d_2
          refine wp_region_plan (C := fun w' => ∃ p : Regrown, w' = grow (redrawn w4 p.d) p.os) (.q 0 (.q 1 (.q 2 (.q 3 (.q 4 (.q 5 (.q 6 (.q 7 (.q 8 (.q 9 (.q 10 (.q 11 (.q 12 (.q 13 (.q 14 (.q 15 (.q 16 (.q 17 (.q 18 (.q 19 (.q 20 (.done)))))))))))))))))))))) 21 (by kernel_rfl) (by kernel_rfl) (grew_drew _) ?_
          repeat (any_goals (first | (go_big_quiet_skip; refine wpQuiet_nil ?_) | (go_big_quiet_want; go_big_quiet_op; go_big_quiet_on; refine wpQuiet_nil ?_) | ((with_reducible apply q_split); exact rfl; intro q hq; cases q <;> (rw [hq]; (try first | replace hq := bnot_t hq | replace hq := bnot_f hq); (try first | replace hq := of_decide_eq_true hq | replace hq := of_decide_eq_false hq | replace hq := eq_of_beq hq); (try first | replace hq := Int.not_lt.1 hq | replace hq := Int.not_le.1 hq | replace hq := Nat.not_lt.1 hq | replace hq := Nat.not_le.1 hq); try (exfalso; omega))) | (refine plan_q rfl rfl ?_)))
          clear y_q_a_0 y_q_a_1
          clear y_q_b_0 y_q_b_1
          clear y_e_0 y_e_1 y_e_2
          clear y_d_0 y_d_1 y_d_2
          have f1 := H_rr.out.frozen
          obtain ⟨q_r_0, q_r_1⟩ := H_rr.out.c2
          all_goals refine plan_done ?_
          all_goals (try simp only [List.drop_succ_cons, List.drop_zero])
          all_goals (try go_wp2_with fail)
          all_goals refine NoPanic.normal ?_
          all_goals (try go_wp2_with fail)
          try rw [Exit.noGoto_ret]
          obtain ⟨s0, s1⟩ := (((H_rr.out.set 0 (.int .i64 0)).set 1 (.slice none 0 0)).drew).c2
          refine bodyPost_ret (v := .tuple #[.agg #[.int .i64 0, .slice none 0 0], .int .i64 11]) (by simp [results, Try.results26, go_sem, s0, s1]) rfl ?_
          exact ⟨none, 0, 0, by rw [HP.out], by rw [HP.out]; exact Sl.nil, ((HB_F.setCell (p := ⟨w.heap.size + 1 + 1, 0, none⟩) (by simp; omega) _).setCell (p := ⟨w.heap.size + 1 + 1, 1, none⟩) (by simp; omega) _).drew⟩
        have hk' : (x.kd != y.kd) = false := by simp [hk0]
        by_cases hc : y.cl ≤ x.cl
        case pos =>
          have HMG2 := Lib.hid (show merge a b = (merge (from_ a ((k + 1 : Nat) : Int)) (from_ b ((k + 1 : Nat) : Int))).map ((acc ++ [x]) ++ ·) by rw [HMG.out, HAT.out, h1, h2]; simp only []; rw [if_neg (by simp [hk0]), if_pos hc]; exact map_snoc _)
          clear h1 h2 hk0
          go_wp2_with fail
          refine (HCA.out _ HB_wr).mono ?_
          rintro e w3 ⟨rfl, hb3⟩
          have HB_w3 := after0 HB_wr hb3
          replace H_o := Lib.hid (H_o.out.below hb3)
          replace HOW := Lib.hid (HOW.out.below hb3)
          have hZ_w3 : NO + 1 ≤ w3.heap.size := Nat.le_trans hZ_wr hb3.size
          clear q_a_0 q_a_1 q_b_0 q_b_1 hb3
          obtain ⟨q_a_0, q_a_1⟩ := (H_a.out.below HB_w3).c2
          obtain ⟨q_b_0, q_b_1⟩ := (H_b.out.below HB_w3).c2
          go_wp2_with fail
          refine (HCB.out _ HB_w3).mono ?_
          rintro e w4 ⟨rfl, hb4⟩
          have HB_w4 := after0 HB_w3 hb4
          replace H_o := Lib.hid (H_o.out.below hb4)
          replace HOW := Lib.hid (HOW.out.below hb4)
          have hZ_w4 : NO + 1 ≤ w4.heap.size := Nat.le_trans hZ_w3 hb4.size
          clear q_a_0 q_a_1 q_b_0 q_b_1 hb4
          obtain ⟨q_a_0, q_a_1⟩ := (H_a.out.below HB_w4).c2
          obtain ⟨q_b_0, q_b_1⟩ := (H_b.out.below HB_w4).c2
          go_wp2_with fail
          obtain ⟨e_0, e_1, e_2⟩ := (HXR.out.below HB_w4 hxb).c3
          obtain ⟨d_0, d_1, d_2⟩ := (HYR.out.below HB_w4 hyb).c3
          have y_q_a_0 := cell_regrown q_a_0
          have y_q_a_1 := cell_regrown q_a_1
          clear q_a_0 q_a_1
          have y_q_b_0 := cell_regrown q_b_0
          have y_q_b_1 := cell_regrown q_b_1
          clear q_b_0 q_b_1
          have y_e_0 := cell_regrown e_0
          have y_e_1 := cell_regrown e_1
          have y_e_2 := cell_regrown e_2
          clear e_0 e_1 e_2
          have y_d_0 := cell_regrown d_0
          have y_d_1 := cell_regrown d_1
          have y_d_2 := cell_regrown d_2
          clear d_0 d_1 d_2
          refine wp_region_plan (C := fun w' => ∃ p : Regrown, w' = grow (redrawn w4 p.d) p.os) (.q 0 (.q 1 (.q 2 (.q 3 (.q 4 (.q 5 (.q 6 (.q 7 (.q 8 (.q 9 (.q 10 (.q 11 (.q 12 (.q 13 (.q 14 (.q 15 (.q 16 (.q 17 (.q 18 (.q 19 (.q 20 (.done)))))))))))))))))))))) 21 (by kernel_rfl) (by kernel_rfl) (grew_drew _) ?_
          repeat (any_goals (first | (go_big_quiet_skip; refine wpQuiet_nil ?_) | (go_big_quiet_want; go_big_quiet_op; go_big_quiet_on; refine wpQuiet_nil ?_) | ((with_reducible apply q_split); exact rfl; intro q hq; cases q <;> (rw [hq]; (try first | replace hq := bnot_t hq | replace hq := bnot_f hq); (try first | replace hq := of_decide_eq_true hq | replace hq := of_decide_eq_false hq | replace hq := eq_of_beq hq); (try first | replace hq := Int.not_lt.1 hq | replace hq := Int.not_le.1 hq | replace hq := Nat.not_lt.1 hq | replace hq := Nat.not_le.1 hq); try (exfalso; omega))) | (refine plan_q rfl rfl ?_)))
          clear y_q_a_0 y_q_a_1
          clear y_q_b_0 y_q_b_1
          clear y_e_0 y_e_1 y_e_2
          clear y_d_0 y_d_1 y_d_2
          all_goals refine plan_done ?_
          all_goals (try simp only [List.drop_succ_cons, List.drop_zero])
          all_goals (try go_wp2_with fail)
          all_goals refine NoPanic.normal ?_
          all_goals (try go_wp2_with fail)
          obtain ⟨W5, hd_W5⟩ : ∃ W2, w4.drew = W2 := ⟨_, rfl⟩
          first | rw [hd_W5] | rw [show ({ w4 with drawn := w4.drawn + 1 } : World) = W5 from hd_W5]
          have hdb : Below w4.heap.size w4 W5 := hd_W5 ▸ (Below.refl _ _).drew
          have HB_W5 : Below wb.heap.size wb W5 := after0 HB_w4 hdb
          replace H_o := Lib.hid (H_o.out.below hdb)
          replace HOW := Lib.hid (HOW.out.below hdb)
          have hZ_W5 : NO + 1 ≤ W5.heap.size := Nat.le_trans hZ_w4 hdb.size
          clear hdb hd_W5
          obtain ⟨q_a_0, q_a_1⟩ := (H_a.out.below HB_W5).c2
          obtain ⟨q_b_0, q_b_1⟩ := (H_b.out.below HB_W5).c2
          obtain ⟨e_0, e_1, e_2⟩ := (HXR.out.below HB_W5 hxb).c3
          obtain ⟨d_0, d_1, d_2⟩ := (HYR.out.below HB_W5 hyb).c3
          have y_q_a_0 := cell_regrown q_a_0
          have y_q_a_1 := cell_regrown q_a_1
          clear q_a_0 q_a_1
          have y_q_b_0 := cell_regrown q_b_0
          have y_q_b_1 := cell_regrown q_b_1
          clear q_b_0 q_b_1
          have y_e_0 := cell_regrown e_0
          have y_e_1 := cell_regrown e_1
          have y_e_2 := cell_regrown e_2
          clear e_0 e_1 e_2
          have y_d_0 := cell_regrown d_0
          have y_d_1 := cell_regrown d_1
          have y_d_2 := cell_regrown d_2
          clear d_0 d_1 d_2
          refine wp_region_plan (C := fun w' => ∃ p : Regrown, w' = grow (redrawn W5 p.d) p.os) (.q 0 (.q 1 (.q 2 (.q 3 (.q 4 (.q 5 (.q 6 (.q 7 (.q 8 (.q 9 (.q 10 (.q 11 (.q 12 (.q 13 (.q 14 (.q 15 (.q 16 (.q 17 (.q 18 (.q 19 (.q 20 (.done)))))))))))))))))))))) 21 (by kernel_rfl) (by kernel_rfl) (grew_drew _) ?_
          repeat (any_goals (first | (go_big_quiet_skip; refine wpQuiet_nil ?_) | (go_big_quiet_want; go_big_quiet_op; go_big_quiet_on; refine wpQuiet_nil ?_) | ((with_reducible apply q_split); exact rfl; intro q hq; cases q <;> (rw [hq]; (try first | replace hq := bnot_t hq | replace hq := bnot_f hq); (try first | replace hq := of_decide_eq_true hq | replace hq := of_decide_eq_false hq | replace hq := eq_of_beq hq); (try first | replace hq := Int.not_lt.1 hq | replace hq := Int.not_le.1 hq | replace hq := Nat.not_lt.1 hq | replace hq := Nat.not_le.1 hq); try (exfalso; omega))) | (refine plan_q rfl rfl ?_)))
          clear y_q_a_0 y_q_a_1
          clear y_q_b_0 y_q_b_1
          clear y_e_0 y_e_1 y_e_2
          clear y_d_0 y_d_1 y_d_2
          all_goals refine plan_done ?_
          all_goals (try simp only [List.drop_succ_cons, List.drop_zero])
          all_goals (try go_wp2_with fail)
          all_goals refine NoPanic.normal ?_
          all_goals (try go_wp2_with fail)
          obtain ⟨Wc, hd_Wc⟩ : ∃ W2, W5.drew = W2 := ⟨_, rfl⟩
          first | rw [hd_Wc] | rw [show ({ W5 with drawn := W5.drawn + 1 } : World) = Wc from hd_Wc]
          have hdb : Below W5.heap.size W5 Wc := hd_Wc ▸ (Below.refl _ _).drew
          have HB_Wc : Below wb.heap.size wb Wc := after0 HB_W5 hdb
          replace H_o := Lib.hid (H_o.out.below hdb)
          replace HOW := Lib.hid (HOW.out.below hdb)
          have hZ_Wc : NO + 1 ≤ Wc.heap.size := Nat.le_trans hZ_W5 hdb.size
          clear hdb hd_Wc
          obtain ⟨q_a_0, q_a_1⟩ := (H_a.out.below HB_Wc).c2
          obtain ⟨q_b_0, q_b_1⟩ := (H_b.out.below HB_Wc).c2
          obtain ⟨e_0, e_1, e_2⟩ := (HXR.out.below HB_Wc hxb).c3
          obtain ⟨d_0, d_1, d_2⟩ := (HYR.out.below HB_Wc hyb).c3
          obtain ⟨NX, hNX⟩ : ∃ N, Wc.heap.size = N := ⟨_, rfl⟩
          obtain ⟨W3, hW3⟩ : ∃ W3, (Wc.alloc (.cells #[.int .i64 x.sy, .int .i64 x.kd, .int .i64 x.cl] 29)).drew = W3 := ⟨_, rfl⟩
          have hb3 : Below Wc.heap.size Wc W3 := hW3 ▸ (grew1 (Below.refl _ _)).drew
          have HB_W3 : Below wb.heap.size wb W3 := after0 HB_Wc hb3
          have H_o3 := Lib.hid (H_o.out.below hb3)
          have HOW3 := Lib.hid (HOW.out.below hb3)
          have HX3 : Hid (Sl W3 3 cM (some ⟨NX, 0, none⟩) 1 1 [x]) := by
            have h := (Sl.one (x := x) cM_len (Box.new Wc (cM x) 29)).below (Below.refl _ _).drew
            rw [hNX] at h
            rw [← hW3]; exact h
          have hZ3 : NO + 1 ≤ W3.heap.size := Nat.le_trans hZ_Wc hb3.size
          obtain ⟨q_o_0, q_o_1⟩ := H_o.out.c2
          obtain ⟨q3_0, q3_1⟩ := H_o3.out.c2
          refine wp_region_plan (C := fun _ => True) (.q 0 (.q 2 (.q 4 (.two 1 (.e 3 (.q 5 (.e 6 (.e 7 (.e 8 (.q 9 (.e 10 (.done)))))))) 3 (.q 5 (.two 1 (.e 6 (.e 7 (.e 8 (.q 9 (.e 10 (.done)))))) 6 (.two 1 (.e 7 (.e 8 (.q 9 (.e 10 (.done))))) 7 (.e 1 (.e 8 (.q 9 (.e 10 (.done)))))))))))) 11 (by kernel_rfl) (by kernel_rfl) trivial ?_
          repeat (any_goals (first | (go_big_quiet_skip; refine wpQuiet_nil ?_) | (go_big_quiet_want; go_big_quiet_op; go_big_quiet_on; refine wpQuiet_nil ?_) | ((with_reducible apply q_split); exact rfl; intro q hq; cases q <;> (rw [hq]; (try first | replace hq := bnot_t hq | replace hq := bnot_f hq); (try first | replace hq := of_decide_eq_true hq | replace hq := of_decide_eq_false hq | replace hq := eq_of_beq hq); (try first | replace hq := Int.not_lt.1 hq | replace hq := Int.not_le.1 hq | replace hq := Nat.not_lt.1 hq | replace hq := Nat.not_le.1 hq); try (exfalso; omega))) | (refine plan_q rfl rfl ?_) | (refine plan_e rfl ?_; go_wp2_with fail; refine MixPost.intro trivial ?_) | (refine plan_two rfl rfl ?_ ?_) | (refine plan_three rfl rfl rfl ?_ ?_ ?_) | ((with_reducible refine wpl_id ?_); go_wp2_with fail; refine MixPost.intro trivial ?_)))
          all_goals
            refine plan_e rfl ?_
            go_wp2_with (at_builtin; refine wpList_append_sl rfl _ _ 22 rfl (NO + 1) 29 i0 _ 3 24 Try.underlying22 HI.out HZ0.out HZ1.out HZ2.out rfl (by decide) cM_len cM_one _ acc rfl HOW3.out (some ⟨NX, 0, none⟩) 1 1 [x] rfl HX3.out (by unfold maxLen; omega) (by omega) hZ3 ?_)
            rintro v5 w5 ho5 hg5 hgr5
            obtain ⟨ao5, cap5, rfl, _⟩ := ho5.sl cM_len
            rw [show (acc ++ [x]).length = acc.length + 1 by simp] at ho5 ⊢
            have H_o5 := Lib.hid (H_o3.out.grown hgr5 (fun e => by have := (HOW3.out.row NO e.symm).1; omega))
            have HB_w5 : Below wb.heap.size wb w5 := HB_W3.trans (hg5 _ (by have := HNE.out; omega))
            have hZ5 : NO + 1 ≤ w5.heap.size := Nat.le_trans hZ3 hgr5.size
            have HO5 := Lib.hid ho5
            have f5 := H_o5.out.frozen
            obtain ⟨q5_0, q5_1⟩ := H_o5.out.c2
            refine MixPost.intro trivial ?_
            clear hg5 hgr5 ho5
            repeat (any_goals (first | (go_big_quiet_skip; refine wpQuiet_nil ?_) | (go_big_quiet_want; go_big_quiet_op; go_big_quiet_on; refine wpQuiet_nil ?_) | ((with_reducible apply q_split); exact rfl; intro q hq; cases q <;> (rw [hq]; (try first | replace hq := bnot_t hq | replace hq := bnot_f hq); (try first | replace hq := of_decide_eq_true hq | replace hq := of_decide_eq_false hq | replace hq := eq_of_beq hq); (try first | replace hq := Int.not_lt.1 hq | replace hq := Int.not_le.1 hq | replace hq := Nat.not_lt.1 hq | replace hq := Nat.not_le.1 hq); try (exfalso; omega))) | (refine plan_q rfl rfl ?_) | (refine plan_e rfl ?_; go_wp2_with fail; refine MixPost.intro trivial ?_) | (refine plan_two rfl rfl ?_ ?_) | (refine plan_three rfl rfl rfl ?_ ?_ ?_) | ((with_reducible refine wpl_id ?_); go_wp2_with fail; refine MixPost.intro trivial ?_)))
            refine plan_done ?_
            try simp only [List.drop_succ_cons, List.drop_zero]
            try go_wp2_with fail
            refine NoPanic.normal ?_
            try go_wp2_with fail
            go_roundw
            case rel => exact ⟨k + 1, _, acc ++ [x], by omega, by go_num, HB_w5.setCell (p := ⟨NO, 1, none⟩) (by have := HNE.out; dsimp only; omega) _, by simpa [World.size_setCell] using hZ5, Lib.hid (H_o5.out.set 1 _), Lib.hid (HO5.out.setCell (b := NO) (j := 1) (by omega)), HMG2, by simp; omega⟩
            case measure => simp [intOf]; omega
        case neg =>
          have HMG2 := Lib.hid (show merge a b = (merge (from_ a ((k + 1 : Nat) : Int)) (from_ b ((k + 1 : Nat) : Int))).map ((acc ++ [y]) ++ ·) by rw [HMG.out, HAT.out, h1, h2]; simp only []; rw [if_neg (by simp [hk0]), if_neg hc]; exact map_snoc _)
          replace hc := Int.not_le.1 hc
          clear h1 h2 hk0
          go_wp2_with fail
          refine (HCA.out _ HB_wr).mono ?_
          rintro e w3 ⟨rfl, hb3⟩
          have HB_w3 := after0 HB_wr hb3
          replace H_o := Lib.hid (H_o.out.below hb3)
          replace HOW := Lib.hid (HOW.out.below hb3)
          have hZ_w3 : NO + 1 ≤ w3.heap.size := Nat.le_trans hZ_wr hb3.size
          clear q_a_0 q_a_1 q_b_0 q_b_1 hb3
          obtain ⟨q_a_0, q_a_1⟩ := (H_a.out.below HB_w3).c2
          obtain ⟨q_b_0, q_b_1⟩ := (H_b.out.below HB_w3).c2
          go_wp2_with fail
          refine (HCB.out _ HB_w3).mono ?_
          rintro e w4 ⟨rfl, hb4⟩
          have HB_w4 := after0 HB_w3 hb4
          replace H_o := Lib.hid (H_o.out.below hb4)
          replace HOW := Lib.hid (HOW.out.below hb4)
          have hZ_w4 : NO + 1 ≤ w4.heap.size := Nat.le_trans hZ_w3 hb4.size
          clear q_a_0 q_a_1 q_b_0 q_b_1 hb4
          obtain ⟨q_a_0, q_a_1⟩ := (H_a.out.below HB_w4).c2
          obtain ⟨q_b_0, q_b_1⟩ := (H_b.out.below HB_w4).c2
          go_wp2_with fail
          obtain ⟨e_0, e_1, e_2⟩ := (HXR.out.below HB_w4 hxb).c3
          obtain ⟨d_0, d_1, d_2⟩ := (HYR.out.below HB_w4 hyb).c3
          have y_q_a_0 := cell_regrown q_a_0
          have y_q_a_1 := cell_regrown q_a_1
          clear q_a_0 q_a_1
          have y_q_b_0 := cell_regrown q_b_0
          have y_q_b_1 := cell_regrown q_b_1
          clear q_b_0 q_b_1
          have y_e_0 := cell_regrown e_0
          have y_e_1 := cell_regrown e_1
          have y_e_2 := cell_regrown e_2
          clear e_0 e_1 e_2
          have y_d_0 := cell_regrown d_0
          have y_d_1 := cell_regrown d_1
          have y_d_2 := cell_regrown d_2
          clear d_0 d_1 d_2
          refine wp_region_plan (C := fun w' => ∃ p : Regrown, w' = grow (redrawn w4 p.d) p.os) (.q 0 (.q 1 (.q 2 (.q 3 (.q 4 (.q 5 (.q 6 (.q 7 (.q 8 (.q 9 (.q 10 (.q 11 (.q 12 (.q 13 (.q 14 (.q 15 (.q 16 (.q 17 (.q 18 (.q 19 (.q 20 (.done)))))))))))))))))))))) 21 (by kernel_rfl) (by kernel_rfl) (grew_drew _) ?_
          repeat (any_goals (first | (go_big_quiet_skip; refine wpQuiet_nil ?_) | (go_big_quiet_want; go_big_quiet_op; go_big_quiet_on; refine wpQuiet_nil ?_) | ((with_reducible apply q_split); exact rfl; intro q hq; cases q <;> (rw [hq]; (try first | replace hq := bnot_t hq | replace hq := bnot_f hq); (try first | replace hq := of_decide_eq_true hq | replace hq := of_decide_eq_false hq | replace hq := eq_of_beq hq); (try first | replace hq := Int.not_lt.1 hq | replace hq := Int.not_le.1 hq | replace hq := Nat.not_lt.1 hq | replace hq := Nat.not_le.1 hq); try (exfalso; omega))) | (refine plan_q rfl rfl ?_)))
          clear y_q_a_0 y_q_a_1
          clear y_q_b_0 y_q_b_1
          clear y_e_0 y_e_1 y_e_2
          clear y_d_0 y_d_1 y_d_2
          all_goals refine plan_done ?_
          all_goals (try simp only [List.drop_succ_cons, List.drop_zero])
          all_goals (try go_wp2_with fail)
          all_goals refine NoPanic.normal ?_
          all_goals (try go_wp2_with fail)
          obtain ⟨W5, hd_W5⟩ : ∃ W2, w4.drew = W2 := ⟨_, rfl⟩
          first | rw [hd_W5] | rw [show ({ w4 with drawn := w4.drawn + 1 } : World) = W5 from hd_W5]
          have hdb : Below w4.heap.size w4 W5 := hd_W5 ▸ (Below.refl _ _).drew
          have HB_W5 : Below wb.heap.size wb W5 := after0 HB_w4 hdb
          replace H_o := Lib.hid (H_o.out.below hdb)
          replace HOW := Lib.hid (HOW.out.below hdb)
          have hZ_W5 : NO + 1 ≤ W5.heap.size := Nat.le_trans hZ_w4 hdb.size
          clear hdb hd_W5
          obtain ⟨q_a_0, q_a_1⟩ := (H_a.out.below HB_W5).c2
          obtain ⟨q_b_0, q_b_1⟩ := (H_b.out.below HB_W5).c2
          obtain ⟨e_0, e_1, e_2⟩ := (HXR.out.below HB_W5 hxb).c3
          obtain ⟨d_0, d_1, d_2⟩ := (HYR.out.below HB_W5 hyb).c3
          have y_q_a_0 := cell_regrown q_a_0
          have y_q_a_1 := cell_regrown q_a_1
          clear q_a_0 q_a_1
          have y_q_b_0 := cell_regrown q_b_0
          have y_q_b_1 := cell_regrown q_b_1
          clear q_b_0 q_b_1
          have y_e_0 := cell_regrown e_0
          have y_e_1 := cell_regrown e_1
          have y_e_2 := cell_regrown e_2
          clear e_0 e_1 e_2
          have y_d_0 := cell_regrown d_0
          have y_d_1 := cell_regrown d_1
          have y_d_2 := cell_regrown d_2
          clear d_0 d_1 d_2
          refine wp_region_plan (C := fun w' => ∃ p : Regrown, w' = grow (redrawn W5 p.d) p.os) (.q 0 (.q 1 (.q 2 (.q 3 (.q 4 (.q 5 (.q 6 (.q 7 (.q 8 (.q 9 (.q 10 (.q 11 (.q 12 (.q 13 (.q 14 (.q 15 (.q 16 (.q 17 (.q 18 (.q 19 (.q 20 (.done)))))))))))))))))))))) 21 (by kernel_rfl) (by kernel_rfl) (grew_drew _) ?_
          repeat (any_goals (first | (go_big_quiet_skip; refine wpQuiet_nil ?_) | (go_big_quiet_want; go_big_quiet_op; go_big_quiet_on; refine wpQuiet_nil ?_) | ((with_reducible apply q_split); exact rfl; intro q hq; cases q <;> (rw [hq]; (try first | replace hq := bnot_t hq | replace hq := bnot_f hq); (try first | replace hq := of_decide_eq_true hq | replace hq := of_decide_eq_false hq | replace hq := eq_of_beq hq); (try first | replace hq := Int.not_lt.1 hq | replace hq := Int.not_le.1 hq | replace hq := Nat.not_lt.1 hq | replace hq := Nat.not_le.1 hq); try (exfalso; omega))) | (refine plan_q rfl rfl ?_)))
          clear y_q_a_0 y_q_a_1
          clear y_q_b_0 y_q_b_1
          clear y_e_0 y_e_1 y_e_2
          clear y_d_0 y_d_1 y_d_2
          all_goals refine plan_done ?_
          all_goals (try simp only [List.drop_succ_cons, List.drop_zero])
          all_goals (try go_wp2_with fail)
          all_goals refine NoPanic.normal ?_
          all_goals (try go_wp2_with fail)
          obtain ⟨Wc, hd_Wc⟩ : ∃ W2, W5.drew = W2 := ⟨_, rfl⟩
          first | rw [hd_Wc] | rw [show ({ W5 with drawn := W5.drawn + 1 } : World) = Wc from hd_Wc]
          have hdb : Below W5.heap.size W5 Wc := hd_Wc ▸ (Below.refl _ _).drew
          have HB_Wc : Below wb.heap.size wb Wc := after0 HB_W5 hdb
          replace H_o := Lib.hid (H_o.out.below hdb)
          replace HOW := Lib.hid (HOW.out.below hdb)
          have hZ_Wc : NO + 1 ≤ Wc.heap.size := Nat.le_trans hZ_W5 hdb.size
          clear hdb hd_Wc
          obtain ⟨q_a_0, q_a_1⟩ := (H_a.out.below HB_Wc).c2
          obtain ⟨q_b_0, q_b_1⟩ := (H_b.out.below HB_Wc).c2
          obtain ⟨e_0, e_1, e_2⟩ := (HXR.out.below HB_Wc hxb).c3
          obtain ⟨d_0, d_1, d_2⟩ := (HYR.out.below HB_Wc hyb).c3
          obtain ⟨NX, hNX⟩ : ∃ N, Wc.heap.size = N := ⟨_, rfl⟩
          obtain ⟨W3, hW3⟩ : ∃ W3, (Wc.alloc (.cells #[.int .i64 y.sy, .int .i64 y.kd, .int .i64 y.cl] 29)).drew = W3 := ⟨_, rfl⟩
          have hb3 : Below Wc.heap.size Wc W3 := hW3 ▸ (grew1 (Below.refl _ _)).drew
          have HB_W3 : Below wb.heap.size wb W3 := after0 HB_Wc hb3
          have H_o3 := Lib.hid (H_o.out.below hb3)
          have HOW3 := Lib.hid (HOW.out.below hb3)
          have HX3 : Hid (Sl W3 3 cM (some ⟨NX, 0, none⟩) 1 1 [y]) := by
            have h := (Sl.one (x := y) cM_len (Box.new Wc (cM y) 29)).below (Below.refl _ _).drew
            rw [hNX] at h
            rw [← hW3]; exact h
          have hZ3 : NO + 1 ≤ W3.heap.size := Nat.le_trans hZ_Wc hb3.size
          obtain ⟨q_o_0, q_o_1⟩ := H_o.out.c2
          obtain ⟨q3_0, q3_1⟩ := H_o3.out.c2
          refine wp_region_plan (C := fun _ => True) (.q 0 (.q 2 (.q 4 (.two 1 (.e 3 (.q 5 (.e 6 (.e 7 (.e 8 (.q 9 (.e 10 (.done)))))))) 3 (.q 5 (.two 1 (.e 6 (.e 7 (.e 8 (.q 9 (.e 10 (.done)))))) 6 (.two 1 (.e 7 (.e 8 (.q 9 (.e 10 (.done))))) 7 (.e 1 (.e 8 (.q 9 (.e 10 (.done)))))))))))) 11 (by kernel_rfl) (by kernel_rfl) trivial ?_
          repeat (any_goals (first | (go_big_quiet_skip; refine wpQuiet_nil ?_) | (go_big_quiet_want; go_big_quiet_op; go_big_quiet_on; refine wpQuiet_nil ?_) | ((with_reducible apply q_split); exact rfl; intro q hq; cases q <;> (rw [hq]; (try first | replace hq := bnot_t hq | replace hq := bnot_f hq); (try first | replace hq := of_decide_eq_true hq | replace hq := of_decide_eq_false hq | replace hq := eq_of_beq hq); (try first | replace hq := Int.not_lt.1 hq | replace hq := Int.not_le.1 hq | replace hq := Nat.not_lt.1 hq | replace hq := Nat.not_le.1 hq); try (exfalso; omega))) | (refine plan_q rfl rfl ?_) | (refine plan_e rfl ?_; go_wp2_with fail; refine MixPost.intro trivial ?_) | (refine plan_two rfl rfl ?_ ?_) | (refine plan_three rfl rfl rfl ?_ ?_ ?_) | ((with_reducible refine wpl_id ?_); go_wp2_with fail; refine MixPost.intro trivial ?_)))
          all_goals
            refine plan_e rfl ?_
            go_wp2_with (at_builtin; refine wpList_append_sl rfl _ _ 22 rfl (NO + 1) 29 i0 _ 3 24 Try.underlying22 HI.out HZ0.out HZ1.out HZ2.out rfl (by decide) cM_len cM_one _ acc rfl HOW3.out (some ⟨NX, 0, none⟩) 1 1 [y] rfl HX3.out (by unfold maxLen; omega) (by omega) hZ3 ?_)
            rintro v5 w5 ho5 hg5 hgr5
            obtain ⟨ao5, cap5, rfl, _⟩ := ho5.sl cM_len
            rw [show (acc ++ [y]).length = acc.length + 1 by simp] at ho5 ⊢
            have H_o5 := Lib.hid (H_o3.out.grown hgr5 (fun e => by have := (HOW3.out.row NO e.symm).1; omega))
            have HB_w5 : Below wb.heap.size wb w5 := HB_W3.trans (hg5 _ (by have := HNE.out; omega))
            have hZ5 : NO + 1 ≤ w5.heap.size := Nat.le_trans hZ3 hgr5.size
            have HO5 := Lib.hid ho5
            have f5 := H_o5.out.frozen
            obtain ⟨q5_0, q5_1⟩ := H_o5.out.c2
            refine MixPost.intro trivial ?_
            clear hg5 hgr5 ho5
            repeat (any_goals (first | (go_big_quiet_skip; refine wpQuiet_nil ?_) | (go_big_quiet_want; go_big_quiet_op; go_big_quiet_on; refine wpQuiet_nil ?_) | ((with_reducible apply q_split); exact rfl; intro q hq; cases q <;> (rw [hq]; (try first | replace hq := bnot_t hq | replace hq := bnot_f hq); (try first | replace hq := of_decide_eq_true hq | replace hq := of_decide_eq_false hq | replace hq := eq_of_beq hq); (try first | replace hq := Int.not_lt.1 hq | replace hq := Int.not_le.1 hq | replace hq := Nat.not_lt.1 hq | replace hq := Nat.not_le.1 hq); try (exfalso; omega))) | (refine plan_q rfl rfl ?_) | (refine plan_e rfl ?_; go_wp2_with fail; refine MixPost.intro trivial ?_) | (refine plan_two rfl rfl ?_ ?_) | (refine plan_three rfl rfl rfl ?_ ?_ ?_) | ((with_reducible refine wpl_id ?_); go_wp2_with fail; refine MixPost.intro trivial ?_)))
            refine plan_done ?_
            try simp only [List.drop_succ_cons, List.drop_zero]
            try go_wp2_with fail
            refine NoPanic.normal ?_
            try go_wp2_with fail
            go_roundw
            case rel => exact ⟨k + 1, _, acc ++ [y], by omega, by go_num, HB_w5.setCell (p := ⟨NO, 1, none⟩) (by have := HNE.out; dsimp only; omega) _, by simpa [World.size_setCell] using hZ5, Lib.hid (H_o5.out.set 1 _), Lib.hid (HO5.out.setCell (b := NO) (j := 1) (by omega)), HMG2, by simp; omega⟩
            case measure => simp [intOf]; omega
end Go.Proofs.Ytmnlkndbdcdngaa
