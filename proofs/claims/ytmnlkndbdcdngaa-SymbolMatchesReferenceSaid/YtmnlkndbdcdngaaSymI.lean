/-
  Walks of the layer 'symbol': Join.
-/
import Derived.WalkMore
import Derived.Test.YtmnlkndbdcdngaaSymF
import Derived.Test.YtmnlkndbdcdngaaTail
namespace Go.Proofs.Ytmnlkndbdcdngaa
open Go.RowKit Sb Sk Go.Sort
set_option linter.unusedVariables false

theorem info_mark : (Try.prog.info? 29).map (fun i => (i.zero, i.size, i.bytes)) = some (some (.agg #[.int .i64 0, .int .i64 0, .int .i64 0]), 3, 24) := by kernel_rfl

/-- a book and an error -/
def Joined (w : World) (p : (Int × List Mk) × Int) (e : Ending) (w' : World) : Prop :=
  ∃ ao n cap, e = .returned (.tuple #[.agg #[.int .i64 p.1.1, .slice ao n cap], .int .i64 p.2]) ∧ Sl w' 3 cM ao n cap p.1.2 ∧ OwnL w' w.heap.size 29 3 cM (.slice ao n cap) p.1.2 ∧ Below w.heap.size w w'

theorem join_bad {oa ob : Int} {a b : List Mk} (h : (okB oa a && okB ob b) = false) : join oa a ob b = ((0, []), 1) := by
  unfold join; rw [if_neg (by rw [h]; simp)]
theorem join_none {oa ob : Int} {a b : List Mk} (h : (okB oa a && okB ob b) = true) (h2 : merge a b = none) : join oa a ob b = ((0, []), 11) := by
  unfold join; rw [if_pos h, h2]
theorem join_some {oa ob : Int} {a b l : List Mk} (h : (okB oa a && okB ob b) = true) (h2 : merge a b = some l) : join oa a ob b = if 100 < l.length then ((0, []), 2) else ((oa, l), 0) := by
  unfold join; rw [if_pos h, h2]
theorem merge_nil {ys : List Mk} : merge [] ys = some ys := by rw [merge]
theorem merge_end {xs : List Mk} : merge xs [] = some xs := by cases xs <;> rw [merge]
theorem merge_lt {x y : Mk} {xs ys : List Mk} (h : x.sy < y.sy) : merge (x :: xs) (y :: ys) = (merge xs (y :: ys)).map (x :: ·) := by rw [merge, if_pos h]
theorem merge_gt {x y : Mk} {xs ys : List Mk} (h : y.sy < x.sy) : merge (x :: xs) (y :: ys) = (merge (x :: xs) ys).map (y :: ·) := by rw [merge, if_neg (by omega), if_pos h]
theorem merge_ne {x y : Mk} {xs ys : List Mk} (h : x.sy = y.sy) (h2 : x.kd ≠ y.kd) : merge (x :: xs) (y :: ys) = none := by rw [merge, if_neg (by omega), if_neg (by omega), if_pos h2]
theorem merge_eq {x y : Mk} {xs ys : List Mk} (h : x.sy = y.sy) (h2 : x.kd = y.kd) : merge (x :: xs) (y :: ys) = (merge xs ys).map (⟨x.sy, x.kd, max x.cl y.cl⟩ :: ·) := by rw [merge, if_neg (by omega), if_neg (by omega), if_neg (by simp [h2])]
theorem map_snoc {acc : List Mk} {z : Mk} (o : Option (List Mk)) : (o.map (z :: ·)).map (acc ++ ·) = o.map ((acc ++ [z]) ++ ·) := by cases o <;> simp



theorem ownL_setOther {w : World} {base e size : Nat} {enc : Mk → List Value} {v : Value} {ys : List Mk} (h : OwnL w base e size enc v ys) {b j : Nat} {x : Value} (hne : ∀ k, v.ownBlock = some k → k ≠ b) : OwnL (w.setCell ⟨b, j, none⟩ x) base e size enc v ys := by
  unfold OwnL at h ⊢
  refine ⟨h.1, ?_⟩
  rcases h.2 with hn | ⟨g, cap, cur, rfl, hbg, hgg, rest⟩
  · exact .inl hn
  · exact .inr ⟨g, cap, cur, rfl, hbg, (Below.heap_setCell w ⟨b, j, none⟩ x g (hne g rfl)).trans hgg, rest⟩


set_option maxRecDepth 100000 in
set_option maxHeartbeats 30000000 in
theorem Join_any (oa : Int) (aa : Option Addr) (na ca : Nat) (a : List Mk) (ob : Int) (ab : Option Addr) (nb cb : Nat) (b : List Mk) (w : World) (ha : Sl w 3 cM aa na ca a) (hb : Sl w 3 cM ab nb cb b) :
    Calls Try.prog 25 #[.agg #[.int .i64 oa, .slice aa na ca], .agg #[.int .i64 ob, .slice ab nb cb]] w (Joined w (join oa a ob b)) := by
  obtain ⟨W0, hW0, HB_W0, hZ, hn, hm, hr⟩ := boxes3 w [.int .i64 oa, .slice aa na ca] [.int .i64 ob, .slice ab nb cb] [.int .i64 0, .slice none 0 0] 24 24 24
  have H_n := Lib.hid hn
  have H_m := Lib.hid hm
  have H_r : Hid (Box W0 (w.heap.size + 1 + 1) 24 [.int .i64 0, .slice none 0 0]) := hr
  have HA0 := Lib.hid ha
  have HB0 := Lib.hid hb
  have HSA := Lib.hid (ha.below HB_W0)
  have HSB := Lib.hid (hb.below HB_W0)
  clear ha hb hn hm hr hZ
  have HBAD := Lib.hid (@join_bad oa ob a b)
  have HNONE := Lib.hid (@join_none oa ob a b)
  have HSOME := Lib.hid (fun l => @join_some oa ob a b l)
  generalize join oa a ob b = p at *
  obtain ⟨q_n_0, q_n_1⟩ := H_n.out.c2
  obtain ⟨q_m_0, q_m_1⟩ := H_m.out.c2
  go_enter Try.func25, Try.ntmps25
  go_wp2_with fail
  go_step3
  go_wp2_with fail
  refine (bvalid_any _ _ _ _ a _ HSA.out).mono ?_
  rintro e wa ⟨rfl, hb_wa⟩
  have HB_wa : Below w.heap.size w wa := by first | exact after0 HB_W0 hb_wa | exact after1 HB_W0 hb_wa | exact after2 HB_W0 hb_wa | exact after3 HB_W0 hb_wa | exact after4 HB_W0 hb_wa | exact after5 HB_W0 hb_wa
  try clear q_n_0 q_n_1
  have H_n := Lib.hid (Box.below (by first | exact H_n.out | exact H_n.out.alloc _ | exact (H_n.out.alloc _).alloc _ | exact ((H_n.out.alloc _).alloc _).alloc _) hb_wa)
  obtain ⟨q_n_0, q_n_1⟩ := H_n.out.c2
  try clear q_m_0 q_m_1
  have H_m := Lib.hid (Box.below (by first | exact H_m.out | exact H_m.out.alloc _ | exact (H_m.out.alloc _).alloc _ | exact ((H_m.out.alloc _).alloc _).alloc _) hb_wa)
  obtain ⟨q_m_0, q_m_1⟩ := H_m.out.c2
  try clear q_r_0 q_r_1
  have H_r := Lib.hid (Box.below (by first | exact H_r.out | exact H_r.out.alloc _ | exact (H_r.out.alloc _).alloc _ | exact ((H_r.out.alloc _).alloc _).alloc _) hb_wa)
  obtain ⟨q_r_0, q_r_1⟩ := H_r.out.c2
  replace HSA := Lib.hid (show Sl wa _ _ _ _ _ _ by first | exact HSA.out.below hb_wa | exact (HSA.out.below (grew1 (Below.refl _ _))).below hb_wa | exact (HSA.out.below (grew2 (Below.refl _ _))).below hb_wa | exact (HSA.out.below (grew3 (Below.refl _ _))).below hb_wa)
  replace HSB := Lib.hid (show Sl wa _ _ _ _ _ _ by first | exact HSB.out.below hb_wa | exact (HSB.out.below (grew1 (Below.refl _ _))).below hb_wa | exact (HSB.out.below (grew2 (Below.refl _ _))).below hb_wa | exact (HSB.out.below (grew3 (Below.refl _ _))).below hb_wa)
  clear hW0
  cases h1 : okB oa a
  · have HP := Lib.hid (HBAD.out (by simp [h1]))
    have f1 := H_r.out.frozen
    go_wp2_with fail
    try rw [Exit.noGoto_ret]
    obtain ⟨s0, s1⟩ := ((H_r.out.set 0 (.int .i64 0)).set 1 (.slice none 0 0)).c2
    refine bodyPost_ret (v := .tuple #[.agg #[.int .i64 0, .slice none 0 0], .int .i64 1]) (by simp [results, Try.results25, go_sem, s0, s1]) rfl ?_
    exact ⟨none, 0, 0, by rw [HP.out], by rw [HP.out]; exact Sl.nil, by rw [HP.out]; exact OwnL.nil, (HB_wa.setCell (p := ⟨w.heap.size + 1 + 1, 0, none⟩) (by simp; omega) _).setCell (p := ⟨w.heap.size + 1 + 1, 1, none⟩) (by simp; omega) _⟩
  go_wp2_with fail
  refine (bvalid_any _ _ _ _ b _ HSB.out).mono ?_
  rintro e wb ⟨rfl, hb_wb⟩
  have HB_wb : Below w.heap.size w wb := by first | exact after0 HB_wa hb_wb | exact after1 HB_wa hb_wb | exact after2 HB_wa hb_wb | exact after3 HB_wa hb_wb | exact after4 HB_wa hb_wb | exact after5 HB_wa hb_wb
  try clear q_n_0 q_n_1
  have H_n := Lib.hid (Box.below (by first | exact H_n.out | exact H_n.out.alloc _ | exact (H_n.out.alloc _).alloc _ | exact ((H_n.out.alloc _).alloc _).alloc _) hb_wb)
  obtain ⟨q_n_0, q_n_1⟩ := H_n.out.c2
  try clear q_m_0 q_m_1
  have H_m := Lib.hid (Box.below (by first | exact H_m.out | exact H_m.out.alloc _ | exact (H_m.out.alloc _).alloc _ | exact ((H_m.out.alloc _).alloc _).alloc _) hb_wb)
  obtain ⟨q_m_0, q_m_1⟩ := H_m.out.c2
  try clear q_r_0 q_r_1
  have H_r := Lib.hid (Box.below (by first | exact H_r.out | exact H_r.out.alloc _ | exact (H_r.out.alloc _).alloc _ | exact ((H_r.out.alloc _).alloc _).alloc _) hb_wb)
  obtain ⟨q_r_0, q_r_1⟩ := H_r.out.c2
  replace HSA := Lib.hid (show Sl wb _ _ _ _ _ _ by first | exact HSA.out.below hb_wb | exact (HSA.out.below (grew1 (Below.refl _ _))).below hb_wb | exact (HSA.out.below (grew2 (Below.refl _ _))).below hb_wb | exact (HSA.out.below (grew3 (Below.refl _ _))).below hb_wb)
  replace HSB := Lib.hid (show Sl wb _ _ _ _ _ _ by first | exact HSB.out.below hb_wb | exact (HSB.out.below (grew1 (Below.refl _ _))).below hb_wb | exact (HSB.out.below (grew2 (Below.refl _ _))).below hb_wb | exact (HSB.out.below (grew3 (Below.refl _ _))).below hb_wb)
  cases h2 : okB ob b
  · have HP := Lib.hid (HBAD.out (by simp [h2]))
    have f1 := H_r.out.frozen
    go_wp2_with fail
    try rw [Exit.noGoto_ret]
    obtain ⟨s0, s1⟩ := ((H_r.out.set 0 (.int .i64 0)).set 1 (.slice none 0 0)).c2
    refine bodyPost_ret (v := .tuple #[.agg #[.int .i64 0, .slice none 0 0], .int .i64 1]) (by simp [results, Try.results25, go_sem, s0, s1]) rfl ?_
    exact ⟨none, 0, 0, by rw [HP.out], by rw [HP.out]; exact Sl.nil, by rw [HP.out]; exact OwnL.nil, (HB_wb.setCell (p := ⟨w.heap.size + 1 + 1, 0, none⟩) (by simp; omega) _).setCell (p := ⟨w.heap.size + 1 + 1, 1, none⟩) (by simp; omega) _⟩
  have h12 : (okB oa a && okB ob b) = true := by simp [h1, h2]
  have HNO := Lib.hid (HNONE.out h12)
  have HYE := Lib.hid (fun l => HSOME.out l h12)
  have hla := (okB_iff.1 h1).2.len
  have hlb := (okB_iff.1 h2).2.len
  have hna := HA0.out.len
  have hnb := HB0.out.len
  clear h1 h2 h12 HBAD HNONE HSOME HSA HSB
  obtain ⟨i0, hi, hz0, hz1, hz2⟩ := info_parts info_mark
  have HI := Lib.hid hi
  have HZ0 := Lib.hid hz0
  have HZ1 := Lib.hid hz1
  have HZ2 := Lib.hid hz2
  clear hi hz0 hz1 hz2
  go_wp2_with fail
  obtain ⟨W1, hW1, hB1, hZ1, hb1⟩ := boxes1 wb [.int .i64 oa, .slice none 0 0] 24
  obtain ⟨NO, hNO⟩ : ∃ N, wb.heap.size = N := ⟨_, rfl⟩
  rw [hNO] at hb1 hZ1
  have H_o := Lib.hid hb1
  have HRO : w.heap.size + 1 + 1 < NO := by have := H_r.out.lt; omega
  have HB_W1 : Below w.heap.size w W1 := after0 HB_wb hB1
  replace H_n := Lib.hid (H_n.out.below hB1)
  replace H_m := Lib.hid (H_m.out.below hB1)
  replace H_r := Lib.hid (H_r.out.below hB1)
  have HZW := Lib.hid hZ1
  clear hb1 hB1 hZ1
  rw [hW1, hNO]
  obtain ⟨q_n_0, q_n_1⟩ := H_n.out.c2
  obtain ⟨q_m_0, q_m_1⟩ := H_m.out.c2
  clear hW1 hNO q_r_0 q_r_1
  have y_q_n_0 := cell_regrown q_n_0
  have y_q_n_1 := cell_regrown q_n_1
  clear q_n_0 q_n_1
  have y_q_m_0 := cell_regrown q_m_0
  have y_q_m_1 := cell_regrown q_m_1
  clear q_m_0 q_m_1
  refine wp_region_plan (C := fun w' => ∃ p : Regrown, w' = grow (redrawn W1 p.d) p.os) (.q 0 (.q 1 (.q 2 (.q 3 (.q 4 (.q 5 (.done))))))) 6 (by kernel_rfl) (by kernel_rfl) (grew_drew _) ?_
  repeat (any_goals (first | (go_big_quiet_skip; refine wpQuiet_nil ?_) | (go_big_quiet_want; go_big_quiet_op; go_big_quiet_on; refine wpQuiet_nil ?_) | ((with_reducible apply q_split); exact rfl; intro q hq; cases q <;> (rw [hq]; (try first | replace hq := bnot_t hq | replace hq := bnot_f hq); (try first | replace hq := of_decide_eq_true hq | replace hq := of_decide_eq_false hq | replace hq := eq_of_beq hq); (try first | replace hq := Int.not_lt.1 hq | replace hq := Int.not_le.1 hq | replace hq := Nat.not_lt.1 hq | replace hq := Nat.not_le.1 hq); try (exfalso; omega))) | (refine plan_q rfl rfl ?_)))
  clear y_q_n_0 y_q_n_1
  clear y_q_m_0 y_q_m_1
  all_goals refine plan_done ?_
  all_goals (try simp only [List.drop_succ_cons, List.drop_zero])
  all_goals (try go_wp2_with fail)
  all_goals refine NoPanic.normal ?_
  all_goals (try go_wp2_with fail)
  go_step3
  go_wp2_with fail
  go_loopw [7, 8] (fun x y wr => ∃ (xo : Option Addr) (xn xc : Nat) (xs : List Mk) (yo : Option Addr) (yn yc : Nat) (ys : List Mk) (v : Value) (acc : List Mk), x = .slice xo xn xc ∧ y = .slice yo yn yc ∧ Hid (Sl w 3 cM xo xn xc xs) ∧ Hid (Sl w 3 cM yo yn yc ys) ∧
    Below w.heap.size w wr ∧ NO + 1 ≤ wr.heap.size ∧ Hid (Box wr NO 24 [.int .i64 oa, v]) ∧ Hid (Box wr (w.heap.size + 1 + 1) 24 [.int .i64 0, .slice none 0 0]) ∧ Hid (OwnL wr (NO + 1) 29 3 cM v acc) ∧
    Hid (merge a b = (merge xs ys).map (acc ++ ·)) ∧ acc.length + xn + yn ≤ 200) (fun x y _ => (match x with | .slice _ n _ => n | _ => 0) + (match y with | .slice _ n _ => n | _ => 0))
  case atStart => exact ⟨_, _, _, a, _, _, _, b, _, [], rfl, rfl, HA0, HB0, HB_W1.drew, by simp [HZW.out], Lib.hid H_o.out.drew, Lib.hid H_r.out.drew, OwnL.nil, by show _ = _; simp, by simp; omega⟩
  case round =>
    clear H_o H_r
    obtain ⟨xo, xn, xc, xs, yo, yn, yc, ys, v, acc, rfl, rfl, HSX, HSY, HB_wr, hZr, H_o, H_r, HOW, HMG, hlen⟩ := hrel
    have hxl := HSX.out.len
    have hyl := HSY.out.len
    have hxc := HSX.out.le
    have hyc := HSY.out.le
    have hxm := HSX.out.max
    have hym := HSY.out.max
    unfold maxLen at hxm hym
    obtain ⟨vo, vc, rfl, _⟩ := HOW.out.sl cM_len
    have hZ_wr := hZr
    clear hZr
    by_cases hA : xn = 0 ∨ yn = 0
    case pos =>
      have HML := Lib.hid (show merge a b = some (acc ++ (xs ++ ys)) by
        rw [HMG.out]
        rcases hA with h | h
        · have : xs = [] := List.eq_nil_of_length_eq_zero (by omega)
          subst this
          rw [merge_nil]; simp
        · have : ys = [] := List.eq_nil_of_length_eq_zero (by omega)
          subst this
          rw [merge_end]; simp)
      have hA2 : (((xn : Int) == 0) = true) ∨ (((xn : Int) == 0) = false ∧ ((yn : Int) == 0) = true) := by
        by_cases h : xn = 0
        · left; rw [h]; rfl
        · right; exact ⟨beq_eq_false_iff_ne.2 (by omega), by rw [show yn = 0 by omega]; rfl⟩
      have HXW := Lib.hid (HSX.out.below HB_wr)
      have hlx : (acc ++ xs).length = acc.length + xn := by simp; omega
      have HLX := Lib.hid hlx
      clear hxl hxc hyc hlx hA
      obtain ⟨q_o_0, q_o_1⟩ := H_o.out.c2
      rcases hA2 with hA2 | ⟨hA2, hA3⟩
      all_goals
        go_wp2_with (at_builtin; refine wpList_append_sl rfl _ _ 22 rfl (NO + 1) 29 i0 _ 3 24 Try.underlying22 HI.out HZ0.out HZ1.out HZ2.out rfl (by decide) cM_len cM_one _ acc rfl HOW.out xo xn xc xs rfl HXW.out (by unfold maxLen; omega) (by omega) hZ_wr ?_)
        rintro v2 w2 ho2 hg2 hgr2
        have H_o2 := Lib.hid (H_o.out.grown hgr2 (fun e => by have := (HOW.out.row NO e.symm).1; omega))
        have H_r2 := Lib.hid (H_r.out.grown hgr2 (fun e => by have := (HOW.out.row _ e.symm).1; omega))
        have HB_w2 : Below w.heap.size w w2 := HB_wr.trans (hg2 _ (by omega))
        have hZ2 : NO + 1 ≤ w2.heap.size := Nat.le_trans hZ_wr hgr2.size
        have HO2 := Lib.hid ho2
        have HYW := Lib.hid (HSY.out.below HB_w2)
        clear hg2 hgr2 ho2
        go_wp2_with (at_builtin; refine wpList_append_sl rfl _ _ 22 rfl (NO + 1) 29 i0 _ 3 24 Try.underlying22 HI.out HZ0.out HZ1.out HZ2.out rfl (by decide) cM_len cM_one _ (acc ++ xs) rfl HO2.out yo yn yc ys rfl HYW.out (by have := HLX.out; unfold maxLen; omega) (by have := HLX.out; omega) hZ2 ?_)
        rintro v3 w3 ho3 hg3 hgr3
        have H_o3 := Lib.hid (H_o2.out.grown hgr3 (fun e => by have := (HO2.out.row NO e.symm).1; omega))
        have H_r3 := Lib.hid (H_r2.out.grown hgr3 (fun e => by have := (HO2.out.row _ e.symm).1; omega))
        have HB_w3 : Below w.heap.size w w3 := HB_w2.trans (hg3 _ (by omega))
        try rw [List.append_assoc] at ho3
        generalize acc ++ (xs ++ ys) = l at *
        obtain ⟨ao3, cap3, rfl, _⟩ := ho3.sl cM_len
        have HO3 := Lib.hid ho3
        have HP := Lib.hid (HYE.out l HML.out)
        have f3 := H_o3.out.frozen
        have f4 := H_r3.out.frozen
        obtain ⟨q3_0, q3_1⟩ := H_o3.out.c2
        obtain ⟨r3_0, r3_1⟩ := H_r3.out.c2
        have hne : NO ≠ w.heap.size + 1 + 1 := by omega
        clear hg3 hgr3 ho3 q_o_0 q_o_1
        have HBF : Hid (Below w.heap.size w (w3.setCell ⟨NO, 1, none⟩ (.slice ao3 l.length cap3))) := HB_w3.setCell (p := ⟨NO, 1, none⟩) (by dsimp only; omega) _
        have HRF : Hid (Box (w3.setCell ⟨NO, 1, none⟩ (.slice ao3 l.length cap3)) (w.heap.size + 1 + 1) 24 [.int .i64 0, .slice none 0 0]) := H_r3.out.other (by omega)
        have HOF : Hid (OwnL (w3.setCell ⟨NO, 1, none⟩ (.slice ao3 l.length cap3)) (NO + 1) 29 3 cM (.slice ao3 l.length cap3) l) := HO3.out.setCell (b := NO) (j := 1) (by omega)
        by_cases h100 : 100 < l.length
        · have HP2 := Lib.hid (HP.out.trans (if_pos h100))
          go_wp2_with fail
          try rw [Exit.noGoto_ret]
          obtain ⟨s0, s1⟩ := ((HRF.out.set 0 (.int .i64 0)).set 1 (.slice none 0 0)).c2
          refine bodyPost_ret (v := .tuple #[.agg #[.int .i64 0, .slice none 0 0], .int .i64 2]) (by simp [results, Try.results25, go_sem, s0, s1]) rfl ?_
          exact ⟨none, 0, 0, by rw [HP2.out], by rw [HP2.out]; exact Sl.nil, by rw [HP2.out]; exact OwnL.nil, (HBF.out.setCell (p := ⟨w.heap.size + 1 + 1, 0, none⟩) (by simp; omega) _).setCell (p := ⟨w.heap.size + 1 + 1, 1, none⟩) (by simp; omega) _⟩
        · have HP2 := Lib.hid (HP.out.trans (if_neg h100))
          have h100' : l.length ≤ 100 := by omega
          clear h100
          go_wp2_with fail
          try rw [Exit.noGoto_ret]
          obtain ⟨s0, s1⟩ := ((HRF.out.set 0 (.int .i64 oa)).set 1 (.slice ao3 l.length cap3)).c2
          have HO5 := (HOF.out.setCell (b := w.heap.size + 1 + 1) (j := 0) (x := .int .i64 oa) (by omega)).setCell (b := w.heap.size + 1 + 1) (j := 1) (x := .slice ao3 l.length cap3) (by omega)
          obtain ⟨ao4, cap4, e4, hsl4⟩ := HO5.sl cM_len
          simp only [Value.slice.injEq] at e4
          obtain ⟨rfl, _, rfl⟩ := e4
          refine bodyPost_ret (v := .tuple #[.agg #[.int .i64 oa, .slice ao3 l.length cap3], .int .i64 0]) (by simp [results, Try.results25, go_sem, s0, s1]) rfl ?_
          exact ⟨ao3, l.length, cap3, by rw [HP2.out], by rw [HP2.out]; exact hsl4, by rw [HP2.out]; exact HO5.mono (by omega), (HBF.out.setCell (p := ⟨w.heap.size + 1 + 1, 0, none⟩) (by simp; omega) _).setCell (p := ⟨w.heap.size + 1 + 1, 1, none⟩) (by simp; omega) _⟩
    have hx0 : 0 < xn := by omega
    have hy0 : 0 < yn := by omega
    clear hA
    obtain ⟨xo', hstx, hslx⟩ := slice_tail (P := Try.prog) (t := 22) (by kernel_rfl) (fun W => by kernel_rfl) HSX.out 1 (by omega)
    obtain ⟨yo', hsty, hsly⟩ := slice_tail (P := Try.prog) (t := 22) (by kernel_rfl) (fun W => by kernel_rfl) HSY.out 1 (by omega)
    have HTX := Lib.hid hslx
    have HTY := Lib.hid hsly
    have HSTX : Hid (∀ W, (Instr.sliceAt 22 (.slice xo xn xc) (some (.int .i64 1)) none none).run Try.prog W = .ok (.slice xo' (xn - 1) (xc - 1)) W) := hstx
    have HSTY : Hid (∀ W, (Instr.sliceAt 22 (.slice yo yn yc) (some (.int .i64 1)) none none).run Try.prog W = .ok (.slice yo' (yn - 1) (yc - 1)) W) := hsty
    clear hslx hsly hstx hsty
    have hx0' : ((xn : Int) == 0) = false := beq_eq_false_iff_ne.2 (by omega)
    have hy0' : ((yn : Int) == 0) = false := beq_eq_false_iff_ne.2 (by omega)
    obtain ⟨xb, xf, rfl, hxb, hxrow⟩ := HSX.out.get (i := 0) (by omega)
    obtain ⟨yb, yf, rfl, hyb, hyrow⟩ := HSY.out.get (i := 0) (by omega)
    have hxr := hxrow 0 (by omega)
    have hyr := hyrow 0 (by omega)
    rw [Nat.zero_mul, Nat.add_zero] at hxr hyr
    cases xs with
    | nil => simp at hxl; omega
    | cons x xs =>
    cases ys with
    | nil => simp at hyl; omega
    | cons y ys =>
    simp only [List.getElem_cons_zero] at hxr hyr
    have HXR := Lib.hid hxr
    have HYR := Lib.hid hyr
    simp only [List.drop_succ_cons, List.drop_zero] at HTX HTY
    clear hxrow hyrow hxr hyr
    obtain ⟨e_0, e_1, e_2⟩ := (HXR.out.below HB_wr hxb).c3
    obtain ⟨d_0, d_1, d_2⟩ := (HYR.out.below HB_wr hyb).c3
    go_wp2_with fail
    all_goals try (exfalso; omega)
    clear hxl hyl hxc hyc
    rcases Int.lt_trichotomy x.sy y.sy with hxy | hxy | hxy
    · have HMG2 := Lib.hid (show merge a b = (merge xs (y :: ys)).map ((acc ++ [x]) ++ ·) by rw [HMG.out, merge_lt hxy, map_snoc])
      have y_e_0 := cell_regrown e_0
      have y_e_1 := cell_regrown e_1
      have y_e_2 := cell_regrown e_2
      clear e_0 e_1 e_2
      have y_d_0 := cell_regrown d_0
      have y_d_1 := cell_regrown d_1
      have y_d_2 := cell_regrown d_2
      clear d_0 d_1 d_2
      refine wp_region_plan (C := fun w' => ∃ p : Regrown, w' = grow (redrawn wr p.d) p.os) (.q 0 (.q 1 (.q 2 (.q 3 (.q 4 (.q 5 (.q 6 (.q 7 (.q 8 (.q 9 (.done))))))))))) 10 (by kernel_rfl) (by kernel_rfl) (grew_drew _) ?_
      repeat (any_goals (first | (go_big_quiet_skip; refine wpQuiet_nil ?_) | (go_big_quiet_want; go_big_quiet_op; go_big_quiet_on; refine wpQuiet_nil ?_) | ((with_reducible apply q_split); exact rfl; intro q hq; cases q <;> (rw [hq]; (try first | replace hq := bnot_t hq | replace hq := bnot_f hq); (try first | replace hq := of_decide_eq_true hq | replace hq := of_decide_eq_false hq | replace hq := eq_of_beq hq); (try first | replace hq := Int.not_lt.1 hq | replace hq := Int.not_le.1 hq | replace hq := Nat.not_lt.1 hq | replace hq := Nat.not_le.1 hq); try (exfalso; omega))) | (refine plan_q rfl rfl ?_)))
      clear y_e_0 y_e_1 y_e_2
      clear y_d_0 y_d_1 y_d_2
      all_goals refine plan_done ?_
      all_goals (try simp only [List.drop_succ_cons, List.drop_zero])
      all_goals (try go_wp2_with fail)
      all_goals refine NoPanic.normal ?_
      all_goals (try go_wp2_with fail)
      obtain ⟨Wc, hd_Wc⟩ : ∃ W2, wr.drew = W2 := ⟨_, rfl⟩
      first | rw [hd_Wc] | rw [show ({ wr with drawn := wr.drawn + 1 } : World) = Wc from hd_Wc]
      have HB_Wc : Below w.heap.size w Wc := hd_Wc ▸ HB_wr.drew
      have hdb : Below wr.heap.size wr Wc := hd_Wc ▸ (Below.refl _ _).drew
      replace H_o := Lib.hid (H_o.out.below hdb)
      replace H_r := Lib.hid (H_r.out.below hdb)
      replace HOW := Lib.hid (HOW.out.below hdb)
      have hZ_Wc : NO + 1 ≤ Wc.heap.size := Nat.le_trans hZ_wr hdb.size
      clear hdb hd_Wc
      have hZc := hZ_Wc
      obtain ⟨e_0, e_1, e_2⟩ := (HXR.out.below HB_Wc hxb).c3
      have hst := HSTX.out
      obtain ⟨NX, hNX⟩ : ∃ N, Wc.heap.size = N := ⟨_, rfl⟩
      obtain ⟨W3, hW3⟩ : ∃ W3, (Wc.alloc (.cells #[.int .i64 x.sy, .int .i64 x.kd, .int .i64 x.cl] 29)).drew = W3 := ⟨_, rfl⟩
      have hb3 : Below Wc.heap.size Wc W3 := hW3 ▸ (grew1 (Below.refl _ _)).drew
      have HB_W3 : Below w.heap.size w W3 := after0 HB_Wc hb3
      have H_o3 := Lib.hid (H_o.out.below hb3)
      have H_r3 := Lib.hid (H_r.out.below hb3)
      have HOW3 := Lib.hid (HOW.out.below hb3)
      have HX3 : Hid (Sl W3 3 cM (some ⟨NX, 0, none⟩) 1 1 [x]) := by
        have h := (Sl.one (x := x) cM_len (Box.new Wc (cM x) 29)).below (Below.refl _ _).drew
        rw [hNX] at h
        rw [← hW3]; exact h
      have hZ3 : NO + 1 ≤ W3.heap.size := Nat.le_trans hZc hb3.size
      obtain ⟨q_o_0, q_o_1⟩ := H_o.out.c2
      obtain ⟨q3_0, q3_1⟩ := H_o3.out.c2
      refine wp_region_plan (C := fun _ => True) (.q 0 (.q 2 (.q 3 (.q 7 (.q 8 (.two 1 (.e 4 (.e 5 (.e 6 (.q 9 (.e 10 (.q 11 (.done))))))) 4 (.two 1 (.e 5 (.e 6 (.q 9 (.e 10 (.q 11 (.done)))))) 5 (.e 1 (.e 6 (.q 9 (.e 10 (.q 11 (.done))))))))))))) 12 (by kernel_rfl) (by kernel_rfl) trivial ?_
      repeat (any_goals (first | (go_big_quiet_skip; refine wpQuiet_nil ?_) | (go_big_quiet_want; go_big_quiet_op; go_big_quiet_on; refine wpQuiet_nil ?_) | ((with_reducible apply q_split); exact rfl; intro q hq; cases q <;> (rw [hq]; (try first | replace hq := bnot_t hq | replace hq := bnot_f hq); (try first | replace hq := of_decide_eq_true hq | replace hq := of_decide_eq_false hq | replace hq := eq_of_beq hq); (try first | replace hq := Int.not_lt.1 hq | replace hq := Int.not_le.1 hq | replace hq := Nat.not_lt.1 hq | replace hq := Nat.not_le.1 hq); try (exfalso; omega))) | (refine plan_q rfl rfl ?_) | (refine plan_e rfl ?_; go_wp2_with fail; refine MixPost.intro trivial ?_) | (refine plan_two rfl rfl ?_ ?_) | (refine plan_three rfl rfl rfl ?_ ?_ ?_) | ((with_reducible refine wpl_id ?_); go_wp2_with fail; refine MixPost.intro trivial ?_)))
      all_goals
        refine plan_e rfl ?_
        go_wp2_with (at_builtin; refine wpList_append_sl rfl _ _ 22 rfl (NO + 1) 29 i0 _ 3 24 Try.underlying22 HI.out HZ0.out HZ1.out HZ2.out rfl (by decide) cM_len cM_one _ acc rfl HOW3.out (some ⟨NX, 0, none⟩) 1 1 [x] rfl HX3.out (by unfold maxLen; omega) (by omega) hZ3 ?_)
        rintro v5 w5 ho5 hg5 hgr5
        obtain ⟨ao5, cap5, rfl, _⟩ := ho5.sl cM_len
        rw [show (acc ++ [x]).length = acc.length + 1 by simp] at ho5 ⊢
        have H_o5 := Lib.hid (H_o3.out.grown hgr5 (fun e => by have := (HOW3.out.row NO e.symm).1; omega))
        have H_r5 := Lib.hid (H_r3.out.grown hgr5 (fun e => by have := (HOW3.out.row _ e.symm).1; omega))
        have HB_w5 : Below w.heap.size w w5 := HB_W3.trans (hg5 _ (by omega))
        have hZ5 : NO + 1 ≤ w5.heap.size := Nat.le_trans hZ3 hgr5.size
        have HO5 := Lib.hid ho5
        have f5 := H_o5.out.frozen
        obtain ⟨q5_0, q5_1⟩ := H_o5.out.c2
        refine MixPost.intro trivial ?_
        clear hg5 hgr5 ho5
        repeat (any_goals (first | (go_big_quiet_skip; refine wpQuiet_nil ?_) | (go_big_quiet_want; go_big_quiet_op; go_big_quiet_on; refine wpQuiet_nil ?_) | ((with_reducible apply q_split); exact rfl; intro q hq; cases q <;> (rw [hq]; (try first | replace hq := bnot_t hq | replace hq := bnot_f hq); (try first | replace hq := of_decide_eq_true hq | replace hq := of_decide_eq_false hq | replace hq := eq_of_beq hq); (try first | replace hq := Int.not_lt.1 hq | replace hq := Int.not_le.1 hq | replace hq := Nat.not_lt.1 hq | replace hq := Nat.not_le.1 hq); try (exfalso; omega))) | (refine plan_q rfl rfl ?_) | (refine plan_e rfl ?_; go_wp2_with fail; refine MixPost.intro trivial ?_) | (refine plan_two rfl rfl ?_ ?_) | (refine plan_three rfl rfl rfl ?_ ?_ ?_) | ((with_reducible refine wpl_id ?_); go_wp2_with fail; refine MixPost.intro trivial ?_)))
        refine plan_done ?_
        try simp only [List.drop_succ_cons, List.drop_zero]
        try go_wp2_with fail
        refine NoPanic.normal ?_
        try go_wp2_with fail
        go_roundw
        case rel => exact ⟨xo', xn - 1, xc - 1, xs, _, yn, yc, y :: ys, _, acc ++ [x], rfl, rfl, HTX, HSY, HB_w5.setCell (p := ⟨NO, 1, none⟩) (by dsimp only; omega) _, by simpa [World.size_setCell] using hZ5, Lib.hid (H_o5.out.set 1 _), Lib.hid (H_r5.out.other (by omega)), Lib.hid (HO5.out.setCell (b := NO) (j := 1) (by omega)), HMG2, by simp; omega⟩
        case measure => simp; omega
    · have hle1 : x.sy ≤ y.sy := by omega
      have hle2 : y.sy ≤ x.sy := by omega
      by_cases hk : x.kd = y.kd
      case neg =>
        have HP := Lib.hid (HNO.out (by rw [HMG.out, merge_ne hxy hk]; rfl))
        have hk' : (x.kd == y.kd) = false := beq_eq_false_iff_ne.2 hk
        have hk'' : (x.kd != y.kd) = true := bne_iff_ne.2 hk
        clear hk hxy e_0 e_1 e_2 d_0 d_1 d_2
        obtain ⟨e_0, e_1, e_2⟩ := (HXR.out.below HB_wr hxb).c3
        obtain ⟨d_0, d_1, d_2⟩ := (HYR.out.below HB_wr hyb).c3
        have y_e_0 := cell_regrown e_0
        have y_e_1 := cell_regrown e_1
        have y_e_2 := cell_regrown e_2
        clear e_0 e_1 e_2
        have y_d_0 := cell_regrown d_0
        have y_d_1 := cell_regrown d_1
        have y_d_2 := cell_regrown d_2
        clear d_0 d_1 d_2
        refine wp_region_plan (C := fun w' => ∃ p : Regrown, w' = grow (redrawn wr p.d) p.os) (.q 0 (.q 1 (.q 2 (.q 3 (.q 4 (.q 5 (.q 6 (.q 7 (.q 8 (.q 9 (.done))))))))))) 10 (by kernel_rfl) (by kernel_rfl) (grew_drew _) ?_
        repeat (any_goals (first | (go_big_quiet_skip; refine wpQuiet_nil ?_) | (go_big_quiet_want; go_big_quiet_op; go_big_quiet_on; refine wpQuiet_nil ?_) | ((with_reducible apply q_split); exact rfl; intro q hq; cases q <;> (rw [hq]; (try first | replace hq := bnot_t hq | replace hq := bnot_f hq); (try first | replace hq := of_decide_eq_true hq | replace hq := of_decide_eq_false hq | replace hq := eq_of_beq hq); (try first | replace hq := Int.not_lt.1 hq | replace hq := Int.not_le.1 hq | replace hq := Nat.not_lt.1 hq | replace hq := Nat.not_le.1 hq); try (exfalso; omega))) | (refine plan_q rfl rfl ?_)))
        clear y_e_0 y_e_1 y_e_2
        clear y_d_0 y_d_1 y_d_2
        all_goals refine plan_done ?_
        all_goals (try simp only [List.drop_succ_cons, List.drop_zero])
        all_goals (try go_wp2_with fail)
        all_goals refine NoPanic.normal ?_
        all_goals (try go_wp2_with fail)
        obtain ⟨Wa, hd_Wa⟩ : ∃ W2, wr.drew = W2 := ⟨_, rfl⟩
        first | rw [hd_Wa] | rw [show ({ wr with drawn := wr.drawn + 1 } : World) = Wa from hd_Wa]
        have HB_Wa : Below w.heap.size w Wa := hd_Wa ▸ HB_wr.drew
        have hdb : Below wr.heap.size wr Wa := hd_Wa ▸ (Below.refl _ _).drew
        replace H_o := Lib.hid (H_o.out.below hdb)
        replace H_r := Lib.hid (H_r.out.below hdb)
        replace HOW := Lib.hid (HOW.out.below hdb)
        have hZ_Wa : NO + 1 ≤ Wa.heap.size := Nat.le_trans hZ_wr hdb.size
        clear hdb hd_Wa
        obtain ⟨e_0, e_1, e_2⟩ := (HXR.out.below HB_Wa hxb).c3
        obtain ⟨d_0, d_1, d_2⟩ := (HYR.out.below HB_Wa hyb).c3
        have y_e_0 := cell_regrown e_0
        have y_e_1 := cell_regrown e_1
        have y_e_2 := cell_regrown e_2
        clear e_0 e_1 e_2
        have y_d_0 := cell_regrown d_0
        have y_d_1 := cell_regrown d_1
        have y_d_2 := cell_regrown d_2
        clear d_0 d_1 d_2
        refine wp_region_plan (C := fun w' => ∃ p : Regrown, w' = grow (redrawn Wa p.d) p.os) (.q 0 (.q 1 (.q 2 (.q 3 (.q 4 (.q 5 (.q 6 (.q 7 (.q 8 (.q 9 (.done))))))))))) 10 (by kernel_rfl) (by kernel_rfl) (grew_drew _) ?_
        repeat (any_goals (first | (go_big_quiet_skip; refine wpQuiet_nil ?_) | (go_big_quiet_want; go_big_quiet_op; go_big_quiet_on; refine wpQuiet_nil ?_) | ((with_reducible apply q_split); exact rfl; intro q hq; cases q <;> (rw [hq]; (try first | replace hq := bnot_t hq | replace hq := bnot_f hq); (try first | replace hq := of_decide_eq_true hq | replace hq := of_decide_eq_false hq | replace hq := eq_of_beq hq); (try first | replace hq := Int.not_lt.1 hq | replace hq := Int.not_le.1 hq | replace hq := Nat.not_lt.1 hq | replace hq := Nat.not_le.1 hq); try (exfalso; omega))) | (refine plan_q rfl rfl ?_)))
        clear y_e_0 y_e_1 y_e_2
        clear y_d_0 y_d_1 y_d_2
        all_goals refine plan_done ?_
        all_goals (try simp only [List.drop_succ_cons, List.drop_zero])
        all_goals (try go_wp2_with fail)
        all_goals refine NoPanic.normal ?_
        all_goals (try go_wp2_with fail)
        obtain ⟨Wb, hd_Wb⟩ : ∃ W2, Wa.drew = W2 := ⟨_, rfl⟩
        first | rw [hd_Wb] | rw [show ({ Wa with drawn := Wa.drawn + 1 } : World) = Wb from hd_Wb]
        have HB_Wb : Below w.heap.size w Wb := hd_Wb ▸ HB_Wa.drew
        have hdb : Below Wa.heap.size Wa Wb := hd_Wb ▸ (Below.refl _ _).drew
        replace H_o := Lib.hid (H_o.out.below hdb)
        replace H_r := Lib.hid (H_r.out.below hdb)
        replace HOW := Lib.hid (HOW.out.below hdb)
        have hZ_Wb : NO + 1 ≤ Wb.heap.size := Nat.le_trans hZ_Wa hdb.size
        clear hdb hd_Wb
        obtain ⟨e_0, e_1, e_2⟩ := (HXR.out.below HB_Wb hxb).c3
        obtain ⟨d_0, d_1, d_2⟩ := (HYR.out.below HB_Wb hyb).c3
        have y_e_0 := cell_regrown e_0
        have y_e_1 := cell_regrown e_1
        have y_e_2 := cell_regrown e_2
        clear e_0 e_1 e_2
        have y_d_0 := cell_regrown d_0
        have y_d_1 := cell_regrown d_1
        have y_d_2 := cell_regrown d_2
        clear d_0 d_1 d_2
        refine wp_region_plan (C := fun w' => ∃ p : Regrown, w' = grow (redrawn Wb p.d) p.os) (.q 0 (.q 1 (.q 2 (.q 3 (.q 4 (.q 5 (.q 6 (.q 7 (.q 8 (.q 9 (.done))))))))))) 10 (by kernel_rfl) (by kernel_rfl) (grew_drew _) ?_
        repeat (any_goals (first | (go_big_quiet_skip; refine wpQuiet_nil ?_) | (go_big_quiet_want; go_big_quiet_op; go_big_quiet_on; refine wpQuiet_nil ?_) | ((with_reducible apply q_split); exact rfl; intro q hq; cases q <;> (rw [hq]; (try first | replace hq := bnot_t hq | replace hq := bnot_f hq); (try first | replace hq := of_decide_eq_true hq | replace hq := of_decide_eq_false hq | replace hq := eq_of_beq hq); (try first | replace hq := Int.not_lt.1 hq | replace hq := Int.not_le.1 hq | replace hq := Nat.not_lt.1 hq | replace hq := Nat.not_le.1 hq); try (exfalso; omega))) | (refine plan_q rfl rfl ?_)))
        clear y_e_0 y_e_1 y_e_2
        clear y_d_0 y_d_1 y_d_2
        have f1 := H_r.out.frozen
        obtain ⟨q_r_0, q_r_1⟩ := H_r.out.c2
        all_goals refine plan_done ?_
        all_goals (try simp only [List.drop_succ_cons, List.drop_zero])
        all_goals (try go_wp2_with fail)
        all_goals refine NoPanic.normal ?_
        all_goals (try go_wp2_with fail)
        try rw [Exit.noGoto_ret]
        obtain ⟨s0, s1⟩ := (((H_r.out.set 0 (.int .i64 0)).set 1 (.slice none 0 0)).drew).c2
        refine bodyPost_ret (v := .tuple #[.agg #[.int .i64 0, .slice none 0 0], .int .i64 11]) (by simp [results, Try.results25, go_sem, s0, s1]) rfl ?_
        exact ⟨none, 0, 0, by rw [HP.out], by rw [HP.out]; exact Sl.nil, by rw [HP.out]; exact OwnL.nil, ((HB_Wb.setCell (p := ⟨w.heap.size + 1 + 1, 0, none⟩) (by simp; omega) _).setCell (p := ⟨w.heap.size + 1 + 1, 1, none⟩) (by simp; omega) _).drew⟩
      have HMG2 := Lib.hid (show merge a b = (merge xs ys).map ((acc ++ [⟨x.sy, x.kd, max x.cl y.cl⟩]) ++ ·) by rw [HMG.out, merge_eq hxy hk, map_snoc])
      have hk' : (x.kd == y.kd) = true := beq_iff_eq.2 hk
      have hk'' : (x.kd != y.kd) = false := by simp [hk]
      clear hk hxy e_0 e_1 e_2 d_0 d_1 d_2
      obtain ⟨e_0, e_1, e_2⟩ := (HXR.out.below HB_wr hxb).c3
      obtain ⟨d_0, d_1, d_2⟩ := (HYR.out.below HB_wr hyb).c3
      have y_e_0 := cell_regrown e_0
      have y_e_1 := cell_regrown e_1
      have y_e_2 := cell_regrown e_2
      clear e_0 e_1 e_2
      have y_d_0 := cell_regrown d_0
      have y_d_1 := cell_regrown d_1
      have y_d_2 := cell_regrown d_2
      clear d_0 d_1 d_2
      refine wp_region_plan (C := fun w' => ∃ p : Regrown, w' = grow (redrawn wr p.d) p.os) (.q 0 (.q 1 (.q 2 (.q 3 (.q 4 (.q 5 (.q 6 (.q 7 (.q 8 (.q 9 (.done))))))))))) 10 (by kernel_rfl) (by kernel_rfl) (grew_drew _) ?_
      repeat (any_goals (first | (go_big_quiet_skip; refine wpQuiet_nil ?_) | (go_big_quiet_want; go_big_quiet_op; go_big_quiet_on; refine wpQuiet_nil ?_) | ((with_reducible apply q_split); exact rfl; intro q hq; cases q <;> (rw [hq]; (try first | replace hq := bnot_t hq | replace hq := bnot_f hq); (try first | replace hq := of_decide_eq_true hq | replace hq := of_decide_eq_false hq | replace hq := eq_of_beq hq); (try first | replace hq := Int.not_lt.1 hq | replace hq := Int.not_le.1 hq | replace hq := Nat.not_lt.1 hq | replace hq := Nat.not_le.1 hq); try (exfalso; omega))) | (refine plan_q rfl rfl ?_)))
      clear y_e_0 y_e_1 y_e_2
      clear y_d_0 y_d_1 y_d_2
      all_goals refine plan_done ?_
      all_goals (try simp only [List.drop_succ_cons, List.drop_zero])
      all_goals (try go_wp2_with fail)
      all_goals refine NoPanic.normal ?_
      all_goals (try go_wp2_with fail)
      obtain ⟨Wa, hd_Wa⟩ : ∃ W2, wr.drew = W2 := ⟨_, rfl⟩
      first | rw [hd_Wa] | rw [show ({ wr with drawn := wr.drawn + 1 } : World) = Wa from hd_Wa]
      have HB_Wa : Below w.heap.size w Wa := hd_Wa ▸ HB_wr.drew
      have hdb : Below wr.heap.size wr Wa := hd_Wa ▸ (Below.refl _ _).drew
      replace H_o := Lib.hid (H_o.out.below hdb)
      replace H_r := Lib.hid (H_r.out.below hdb)
      replace HOW := Lib.hid (HOW.out.below hdb)
      have hZ_Wa : NO + 1 ≤ Wa.heap.size := Nat.le_trans hZ_wr hdb.size
      clear hdb hd_Wa
      obtain ⟨e_0, e_1, e_2⟩ := (HXR.out.below HB_Wa hxb).c3
      obtain ⟨d_0, d_1, d_2⟩ := (HYR.out.below HB_Wa hyb).c3
      have y_e_0 := cell_regrown e_0
      have y_e_1 := cell_regrown e_1
      have y_e_2 := cell_regrown e_2
      clear e_0 e_1 e_2
      have y_d_0 := cell_regrown d_0
      have y_d_1 := cell_regrown d_1
      have y_d_2 := cell_regrown d_2
      clear d_0 d_1 d_2
      refine wp_region_plan (C := fun w' => ∃ p : Regrown, w' = grow (redrawn Wa p.d) p.os) (.q 0 (.q 1 (.q 2 (.q 3 (.q 4 (.q 5 (.q 6 (.q 7 (.q 8 (.q 9 (.done))))))))))) 10 (by kernel_rfl) (by kernel_rfl) (grew_drew _) ?_
      repeat (any_goals (first | (go_big_quiet_skip; refine wpQuiet_nil ?_) | (go_big_quiet_want; go_big_quiet_op; go_big_quiet_on; refine wpQuiet_nil ?_) | ((with_reducible apply q_split); exact rfl; intro q hq; cases q <;> (rw [hq]; (try first | replace hq := bnot_t hq | replace hq := bnot_f hq); (try first | replace hq := of_decide_eq_true hq | replace hq := of_decide_eq_false hq | replace hq := eq_of_beq hq); (try first | replace hq := Int.not_lt.1 hq | replace hq := Int.not_le.1 hq | replace hq := Nat.not_lt.1 hq | replace hq := Nat.not_le.1 hq); try (exfalso; omega))) | (refine plan_q rfl rfl ?_)))
      clear y_e_0 y_e_1 y_e_2
      clear y_d_0 y_d_1 y_d_2
      all_goals refine plan_done ?_
      all_goals (try simp only [List.drop_succ_cons, List.drop_zero])
      all_goals (try go_wp2_with fail)
      all_goals refine NoPanic.normal ?_
      all_goals (try go_wp2_with fail)
      obtain ⟨Wb, hd_Wb⟩ : ∃ W2, Wa.drew = W2 := ⟨_, rfl⟩
      first | rw [hd_Wb] | rw [show ({ Wa with drawn := Wa.drawn + 1 } : World) = Wb from hd_Wb]
      have HB_Wb : Below w.heap.size w Wb := hd_Wb ▸ HB_Wa.drew
      have hdb : Below Wa.heap.size Wa Wb := hd_Wb ▸ (Below.refl _ _).drew
      replace H_o := Lib.hid (H_o.out.below hdb)
      replace H_r := Lib.hid (H_r.out.below hdb)
      replace HOW := Lib.hid (HOW.out.below hdb)
      have hZ_Wb : NO + 1 ≤ Wb.heap.size := Nat.le_trans hZ_Wa hdb.size
      clear hdb hd_Wb
      obtain ⟨e_0, e_1, e_2⟩ := (HXR.out.below HB_Wb hxb).c3
      obtain ⟨d_0, d_1, d_2⟩ := (HYR.out.below HB_Wb hyb).c3
      have HXW := Lib.hid (HXR.out.below HB_Wb hxb)
      have x_0 := e_0
      have x_1 := e_1
      have x_2 := e_2
      have y_e_0 := cell_regrown e_0
      have y_e_1 := cell_regrown e_1
      have y_e_2 := cell_regrown e_2
      clear e_0 e_1 e_2
      have y_d_0 := cell_regrown d_0
      have y_d_1 := cell_regrown d_1
      have y_d_2 := cell_regrown d_2
      clear d_0 d_1 d_2
      refine wp_region_plan (C := fun w' => ∃ p : Regrown, w' = grow (redrawn Wb p.d) p.os) (.q 0 (.q 1 (.q 2 (.q 3 (.q 4 (.q 5 (.q 6 (.q 7 (.q 8 (.q 9 (.done))))))))))) 10 (by kernel_rfl) (by kernel_rfl) (grew_drew _) ?_
      repeat (any_goals (first | (go_big_quiet_skip; refine wpQuiet_nil ?_) | (go_big_quiet_want; go_big_quiet_op; go_big_quiet_on; refine wpQuiet_nil ?_) | ((with_reducible apply q_split); exact rfl; intro q hq; cases q <;> (rw [hq]; (try first | replace hq := bnot_t hq | replace hq := bnot_f hq); (try first | replace hq := of_decide_eq_true hq | replace hq := of_decide_eq_false hq | replace hq := eq_of_beq hq); (try first | replace hq := Int.not_lt.1 hq | replace hq := Int.not_le.1 hq | replace hq := Nat.not_lt.1 hq | replace hq := Nat.not_le.1 hq); try (exfalso; omega))) | (refine plan_q rfl rfl ?_)))
      clear y_e_0 y_e_1 y_e_2
      clear y_d_0 y_d_1 y_d_2
      all_goals refine plan_done ?_
      all_goals (try simp only [List.drop_succ_cons, List.drop_zero])
      all_goals (try go_wp2_with fail)
      all_goals refine NoPanic.normal ?_
      all_goals (try go_wp2_with fail)
      clear x_0 x_1 x_2
      have HRB0 := Lib.hid HOW.out.row
      obtain ⟨NM, hNM⟩ : ∃ N, Wb.heap.size = N := ⟨_, rfl⟩
      obtain ⟨W9, hW9⟩ : ∃ W, (Wb.alloc (.cells #[.int .i64 x.sy, .int .i64 x.kd, .int .i64 x.cl] 29)).drew = W := ⟨_, rfl⟩
      have hb9 : Below Wb.heap.size Wb W9 := hW9 ▸ (grew1 (Below.refl _ _)).drew
      have HB_W9 : Below w.heap.size w W9 := after0 HB_Wb hb9
      have H_x9 : Hid (Box W9 NM 29 [.int .i64 x.sy, .int .i64 x.kd, .int .i64 x.cl]) := by rw [← hW9, ← hNM]; exact Box.drew (Box.new Wb [.int .i64 x.sy, .int .i64 x.kd, .int .i64 x.cl] 29)
      replace H_o := Lib.hid (H_o.out.below hb9)
      replace H_r := Lib.hid (H_r.out.below hb9)
      replace HOW := Lib.hid (HOW.out.below hb9)
      have hZ9 : NO + 1 ≤ W9.heap.size := Nat.le_trans hZ_Wb hb9.size
      have hNM1 : NO < NM := by omega
      have HRWB := Lib.hid (show ∀ k, (Value.slice vo acc.length vc).ownBlock = some k → k < NM from fun k hk => by rw [← hNM]; exact (HRB0.out k hk).2.1)
      rw [hW9, hNM]
      clear hW9 hNM hb9
      obtain ⟨d_0, d_1, d_2⟩ := (HYR.out.below HB_W9 hyb).c3
      obtain ⟨m_0, m_1, m_2⟩ := H_x9.out.c3
      have z_0 := m_2
      have f9 := H_x9.out.frozen
      have y_m_0 := cell_regrown m_0
      have y_m_1 := cell_regrown m_1
      have y_m_2 := cell_regrown m_2
      clear m_0 m_1 m_2
      have y_d_0 := cell_regrown d_0
      have y_d_1 := cell_regrown d_1
      have y_d_2 := cell_regrown d_2
      clear d_0 d_1 d_2
      refine wp_region_plan (C := fun w' => ∃ p : Regrown, w' = grow (redrawn W9 p.d) p.os) (.q 0 (.q 1 (.q 2 (.q 3 (.q 4 (.q 5 (.q 6 (.q 7 (.done))))))))) 8 (by kernel_rfl) (by kernel_rfl) (grew_drew _) ?_
      repeat (any_goals (first | (go_big_quiet_skip; refine wpQuiet_nil ?_) | (go_big_quiet_want; go_big_quiet_op; go_big_quiet_on; refine wpQuiet_nil ?_) | ((with_reducible apply q_split); exact rfl; intro q hq; cases q <;> (rw [hq]; (try first | replace hq := bnot_t hq | replace hq := bnot_f hq); (try first | replace hq := of_decide_eq_true hq | replace hq := of_decide_eq_false hq | replace hq := eq_of_beq hq); (try first | replace hq := Int.not_lt.1 hq | replace hq := Int.not_le.1 hq | replace hq := Nat.not_lt.1 hq | replace hq := Nat.not_le.1 hq); try (exfalso; omega))) | (refine plan_q rfl rfl ?_)))
      clear y_m_0 y_m_1 y_m_2
      clear y_d_0 y_d_1 y_d_2
      all_goals refine plan_done ?_
      all_goals (try simp only [List.drop_succ_cons, List.drop_zero])
      all_goals (try go_wp2_with fail)
      all_goals refine NoPanic.normal ?_
      all_goals (try go_wp2_with fail)
      case' inr =>
        have HMG3 := Lib.hid (show merge a b = (merge xs ys).map ((acc ++ [⟨x.sy, x.kd, x.cl⟩]) ++ ·) by rw [HMG2.out, show max x.cl y.cl = x.cl by omega])
        obtain ⟨Wc, hWc⟩ : ∃ W, (W9.setCell ⟨NM, 2, none⟩ (.int .i64 x.cl)).drew = W := ⟨_, rfl⟩
        have HB_Wc : Below w.heap.size w Wc := hWc ▸ (HB_W9.setCell (p := ⟨NM, 2, none⟩) (by dsimp only; omega) _).drew
        have H_xc : Hid (Box Wc NM 29 [.int .i64 x.sy, .int .i64 x.kd, .int .i64 x.cl]) := hWc ▸ Box.drew (H_x9.out.set 2 (.int .i64 x.cl))
        have H_oc : Hid (Box Wc NO 24 [.int .i64 oa, .slice vo acc.length vc]) := hWc ▸ Box.drew (H_o.out.other (by omega))
        have H_rc : Hid (Box Wc (w.heap.size + 1 + 1) 24 [.int .i64 0, .slice none 0 0]) := hWc ▸ Box.drew (H_r.out.other (by omega))
        have HOWc : Hid (OwnL Wc (NO + 1) 29 3 cM (.slice vo acc.length vc) acc) := hWc ▸ (ownL_setOther HOW.out (fun k hk => by have := HRWB.out k hk; omega)).drew
        have hZc : NO + 1 ≤ Wc.heap.size := hWc ▸ (by simpa [World.size_setCell] using hZ9)
        rw [hWc]
        clear hWc H_o H_r HOW HMG2
        have H_o := H_oc
        have H_r := H_rc
        have HOW := HOWc
        clear H_oc H_rc HOWc z_0 f9
        obtain ⟨n_0, n_1, n_2⟩ := H_xc.out.c3
        have n3 : ∀ W, Below Wc.heap.size Wc W → W.cell? ⟨NM, 0, none⟩ = some (.int .i64 x.sy) ∧ W.cell? ⟨NM, 1, none⟩ = some (.int .i64 x.kd) ∧ W.cell? ⟨NM, 2, none⟩ = some (.int .i64 x.cl) := fun W hW => (H_xc.out.below hW).c3
        obtain ⟨n4_0, n4_1, n4_2⟩ := n3 (Wc.alloc (.cells #[.int .i64 x.sy, .int .i64 x.kd, .int .i64 x.cl] 29)).drew (grew1 (Below.refl _ _)).drew
        clear n3
        have hst := HSTX.out
        have hst2 := HSTY.out
        obtain ⟨NX, hNX⟩ : ∃ N, Wc.heap.size = N := ⟨_, rfl⟩
        obtain ⟨W3, hW3⟩ : ∃ W3, (Wc.alloc (.cells #[.int .i64 (⟨x.sy, x.kd, x.cl⟩ : Mk).sy, .int .i64 (⟨x.sy, x.kd, x.cl⟩ : Mk).kd, .int .i64 (⟨x.sy, x.kd, x.cl⟩ : Mk).cl] 29)).drew = W3 := ⟨_, rfl⟩
        have hb3 : Below Wc.heap.size Wc W3 := hW3 ▸ (grew1 (Below.refl _ _)).drew
        have HB_W3 : Below w.heap.size w W3 := after0 HB_Wc hb3
        have H_o3 := Lib.hid (H_o.out.below hb3)
        have H_r3 := Lib.hid (H_r.out.below hb3)
        have HOW3 := Lib.hid (HOW.out.below hb3)
        have HX3 : Hid (Sl W3 3 cM (some ⟨NX, 0, none⟩) 1 1 [(⟨x.sy, x.kd, x.cl⟩ : Mk)]) := by
          have h := (Sl.one (x := (⟨x.sy, x.kd, x.cl⟩ : Mk)) cM_len (Box.new Wc (cM (⟨x.sy, x.kd, x.cl⟩ : Mk)) 29)).below (Below.refl _ _).drew
          rw [hNX] at h
          rw [← hW3]; exact h
        have hZ3 : NO + 1 ≤ W3.heap.size := Nat.le_trans hZc hb3.size
        obtain ⟨q_o_0, q_o_1⟩ := H_o.out.c2
        obtain ⟨q3_0, q3_1⟩ := H_o3.out.c2
        refine wp_region_plan (C := fun _ => True) (.q 0 (.q 5 (.q 6 (.q 7 (.q 8 (.two 1 (.e 2 (.e 3 (.e 4 (.q 9 (.e 10 (.q 11 (.q 12 (.done)))))))) 2 (.two 1 (.e 3 (.e 4 (.q 9 (.e 10 (.q 11 (.q 12 (.done))))))) 3 (.e 1 (.e 4 (.q 9 (.e 10 (.q 11 (.q 12 (.done)))))))))))))) 13 (by kernel_rfl) (by kernel_rfl) trivial ?_
        repeat (any_goals (first | (go_big_quiet_skip; refine wpQuiet_nil ?_) | (go_big_quiet_want; go_big_quiet_op; go_big_quiet_on; refine wpQuiet_nil ?_) | ((with_reducible apply q_split); exact rfl; intro q hq; cases q <;> (rw [hq]; (try first | replace hq := bnot_t hq | replace hq := bnot_f hq); (try first | replace hq := of_decide_eq_true hq | replace hq := of_decide_eq_false hq | replace hq := eq_of_beq hq); (try first | replace hq := Int.not_lt.1 hq | replace hq := Int.not_le.1 hq | replace hq := Nat.not_lt.1 hq | replace hq := Nat.not_le.1 hq); try (exfalso; omega))) | (refine plan_q rfl rfl ?_) | (refine plan_e rfl ?_; go_wp2_with fail; refine MixPost.intro trivial ?_) | (refine plan_two rfl rfl ?_ ?_) | (refine plan_three rfl rfl rfl ?_ ?_ ?_) | ((with_reducible refine wpl_id ?_); go_wp2_with fail; refine MixPost.intro trivial ?_)))
        all_goals
          refine plan_e rfl ?_
          go_wp2_with (at_builtin; refine wpList_append_sl rfl _ _ 22 rfl (NO + 1) 29 i0 _ 3 24 Try.underlying22 HI.out HZ0.out HZ1.out HZ2.out rfl (by decide) cM_len cM_one _ acc rfl HOW3.out (some ⟨NX, 0, none⟩) 1 1 [(⟨x.sy, x.kd, x.cl⟩ : Mk)] rfl HX3.out (by unfold maxLen; omega) (by omega) hZ3 ?_)
          rintro v5 w5 ho5 hg5 hgr5
          obtain ⟨ao5, cap5, rfl, _⟩ := ho5.sl cM_len
          rw [show (acc ++ [(⟨x.sy, x.kd, x.cl⟩ : Mk)]).length = acc.length + 1 by simp] at ho5 ⊢
          have H_o5 := Lib.hid (H_o3.out.grown hgr5 (fun e => by have := (HOW3.out.row NO e.symm).1; omega))
          have H_r5 := Lib.hid (H_r3.out.grown hgr5 (fun e => by have := (HOW3.out.row _ e.symm).1; omega))
          have HB_w5 : Below w.heap.size w w5 := HB_W3.trans (hg5 _ (by omega))
          have hZ5 : NO + 1 ≤ w5.heap.size := Nat.le_trans hZ3 hgr5.size
          have HO5 := Lib.hid ho5
          have f5 := H_o5.out.frozen
          obtain ⟨q5_0, q5_1⟩ := H_o5.out.c2
          refine MixPost.intro trivial ?_
          clear hg5 hgr5 ho5
          repeat (any_goals (first | (go_big_quiet_skip; refine wpQuiet_nil ?_) | (go_big_quiet_want; go_big_quiet_op; go_big_quiet_on; refine wpQuiet_nil ?_) | ((with_reducible apply q_split); exact rfl; intro q hq; cases q <;> (rw [hq]; (try first | replace hq := bnot_t hq | replace hq := bnot_f hq); (try first | replace hq := of_decide_eq_true hq | replace hq := of_decide_eq_false hq | replace hq := eq_of_beq hq); (try first | replace hq := Int.not_lt.1 hq | replace hq := Int.not_le.1 hq | replace hq := Nat.not_lt.1 hq | replace hq := Nat.not_le.1 hq); try (exfalso; omega))) | (refine plan_q rfl rfl ?_) | (refine plan_e rfl ?_; go_wp2_with fail; refine MixPost.intro trivial ?_) | (refine plan_two rfl rfl ?_ ?_) | (refine plan_three rfl rfl rfl ?_ ?_ ?_) | ((with_reducible refine wpl_id ?_); go_wp2_with fail; refine MixPost.intro trivial ?_)))
          refine plan_done ?_
          try simp only [List.drop_succ_cons, List.drop_zero]
          try go_wp2_with fail
          refine NoPanic.normal ?_
          try go_wp2_with fail
          go_roundw
          case rel => exact ⟨xo', xn - 1, xc - 1, xs, yo', yn - 1, yc - 1, ys, _, acc ++ [(⟨x.sy, x.kd, x.cl⟩ : Mk)], rfl, rfl, HTX, HTY, HB_w5.setCell (p := ⟨NO, 1, none⟩) (by dsimp only; omega) _, by simpa [World.size_setCell] using hZ5, Lib.hid (H_o5.out.set 1 _), Lib.hid (H_r5.out.other (by omega)), Lib.hid (HO5.out.setCell (b := NO) (j := 1) (by omega)), HMG3, by simp; omega⟩
          case measure => simp; omega
      case' inl =>
        have HMG3 := Lib.hid (show merge a b = (merge xs ys).map ((acc ++ [⟨x.sy, x.kd, y.cl⟩]) ++ ·) by rw [HMG2.out, show max x.cl y.cl = y.cl by omega])
        obtain ⟨Wc, hWc⟩ : ∃ W, (W9.setCell ⟨NM, 2, none⟩ (.int .i64 y.cl)).drew = W := ⟨_, rfl⟩
        have HB_Wc : Below w.heap.size w Wc := hWc ▸ (HB_W9.setCell (p := ⟨NM, 2, none⟩) (by dsimp only; omega) _).drew
        have H_xc : Hid (Box Wc NM 29 [.int .i64 x.sy, .int .i64 x.kd, .int .i64 y.cl]) := hWc ▸ Box.drew (H_x9.out.set 2 (.int .i64 y.cl))
        have H_oc : Hid (Box Wc NO 24 [.int .i64 oa, .slice vo acc.length vc]) := hWc ▸ Box.drew (H_o.out.other (by omega))
        have H_rc : Hid (Box Wc (w.heap.size + 1 + 1) 24 [.int .i64 0, .slice none 0 0]) := hWc ▸ Box.drew (H_r.out.other (by omega))
        have HOWc : Hid (OwnL Wc (NO + 1) 29 3 cM (.slice vo acc.length vc) acc) := hWc ▸ (ownL_setOther HOW.out (fun k hk => by have := HRWB.out k hk; omega)).drew
        have hZc : NO + 1 ≤ Wc.heap.size := hWc ▸ (by simpa [World.size_setCell] using hZ9)
        rw [hWc]
        clear hWc H_o H_r HOW HMG2
        have H_o := H_oc
        have H_r := H_rc
        have HOW := HOWc
        clear H_oc H_rc HOWc z_0 f9
        obtain ⟨n_0, n_1, n_2⟩ := H_xc.out.c3
        have n3 : ∀ W, Below Wc.heap.size Wc W → W.cell? ⟨NM, 0, none⟩ = some (.int .i64 x.sy) ∧ W.cell? ⟨NM, 1, none⟩ = some (.int .i64 x.kd) ∧ W.cell? ⟨NM, 2, none⟩ = some (.int .i64 y.cl) := fun W hW => (H_xc.out.below hW).c3
        obtain ⟨n4_0, n4_1, n4_2⟩ := n3 (Wc.alloc (.cells #[.int .i64 x.sy, .int .i64 x.kd, .int .i64 y.cl] 29)).drew (grew1 (Below.refl _ _)).drew
        clear n3
        have hst := HSTX.out
        have hst2 := HSTY.out
        obtain ⟨NX, hNX⟩ : ∃ N, Wc.heap.size = N := ⟨_, rfl⟩
        obtain ⟨W3, hW3⟩ : ∃ W3, (Wc.alloc (.cells #[.int .i64 (⟨x.sy, x.kd, y.cl⟩ : Mk).sy, .int .i64 (⟨x.sy, x.kd, y.cl⟩ : Mk).kd, .int .i64 (⟨x.sy, x.kd, y.cl⟩ : Mk).cl] 29)).drew = W3 := ⟨_, rfl⟩
        have hb3 : Below Wc.heap.size Wc W3 := hW3 ▸ (grew1 (Below.refl _ _)).drew
        have HB_W3 : Below w.heap.size w W3 := after0 HB_Wc hb3
        have H_o3 := Lib.hid (H_o.out.below hb3)
        have H_r3 := Lib.hid (H_r.out.below hb3)
        have HOW3 := Lib.hid (HOW.out.below hb3)
        have HX3 : Hid (Sl W3 3 cM (some ⟨NX, 0, none⟩) 1 1 [(⟨x.sy, x.kd, y.cl⟩ : Mk)]) := by
          have h := (Sl.one (x := (⟨x.sy, x.kd, y.cl⟩ : Mk)) cM_len (Box.new Wc (cM (⟨x.sy, x.kd, y.cl⟩ : Mk)) 29)).below (Below.refl _ _).drew
          rw [hNX] at h
          rw [← hW3]; exact h
        have hZ3 : NO + 1 ≤ W3.heap.size := Nat.le_trans hZc hb3.size
        obtain ⟨q_o_0, q_o_1⟩ := H_o.out.c2
        obtain ⟨q3_0, q3_1⟩ := H_o3.out.c2
        refine wp_region_plan (C := fun _ => True) (.q 0 (.q 5 (.q 6 (.q 7 (.q 8 (.two 1 (.e 2 (.e 3 (.e 4 (.q 9 (.e 10 (.q 11 (.q 12 (.done)))))))) 2 (.two 1 (.e 3 (.e 4 (.q 9 (.e 10 (.q 11 (.q 12 (.done))))))) 3 (.e 1 (.e 4 (.q 9 (.e 10 (.q 11 (.q 12 (.done)))))))))))))) 13 (by kernel_rfl) (by kernel_rfl) trivial ?_
        repeat (any_goals (first | (go_big_quiet_skip; refine wpQuiet_nil ?_) | (go_big_quiet_want; go_big_quiet_op; go_big_quiet_on; refine wpQuiet_nil ?_) | ((with_reducible apply q_split); exact rfl; intro q hq; cases q <;> (rw [hq]; (try first | replace hq := bnot_t hq | replace hq := bnot_f hq); (try first | replace hq := of_decide_eq_true hq | replace hq := of_decide_eq_false hq | replace hq := eq_of_beq hq); (try first | replace hq := Int.not_lt.1 hq | replace hq := Int.not_le.1 hq | replace hq := Nat.not_lt.1 hq | replace hq := Nat.not_le.1 hq); try (exfalso; omega))) | (refine plan_q rfl rfl ?_) | (refine plan_e rfl ?_; go_wp2_with fail; refine MixPost.intro trivial ?_) | (refine plan_two rfl rfl ?_ ?_) | (refine plan_three rfl rfl rfl ?_ ?_ ?_) | ((with_reducible refine wpl_id ?_); go_wp2_with fail; refine MixPost.intro trivial ?_)))
        all_goals
          refine plan_e rfl ?_
          go_wp2_with (at_builtin; refine wpList_append_sl rfl _ _ 22 rfl (NO + 1) 29 i0 _ 3 24 Try.underlying22 HI.out HZ0.out HZ1.out HZ2.out rfl (by decide) cM_len cM_one _ acc rfl HOW3.out (some ⟨NX, 0, none⟩) 1 1 [(⟨x.sy, x.kd, y.cl⟩ : Mk)] rfl HX3.out (by unfold maxLen; omega) (by omega) hZ3 ?_)
          rintro v5 w5 ho5 hg5 hgr5
          obtain ⟨ao5, cap5, rfl, _⟩ := ho5.sl cM_len
          rw [show (acc ++ [(⟨x.sy, x.kd, y.cl⟩ : Mk)]).length = acc.length + 1 by simp] at ho5 ⊢
          have H_o5 := Lib.hid (H_o3.out.grown hgr5 (fun e => by have := (HOW3.out.row NO e.symm).1; omega))
          have H_r5 := Lib.hid (H_r3.out.grown hgr5 (fun e => by have := (HOW3.out.row _ e.symm).1; omega))
          have HB_w5 : Below w.heap.size w w5 := HB_W3.trans (hg5 _ (by omega))
          have hZ5 : NO + 1 ≤ w5.heap.size := Nat.le_trans hZ3 hgr5.size
          have HO5 := Lib.hid ho5
          have f5 := H_o5.out.frozen
          obtain ⟨q5_0, q5_1⟩ := H_o5.out.c2
          refine MixPost.intro trivial ?_
          clear hg5 hgr5 ho5
          repeat (any_goals (first | (go_big_quiet_skip; refine wpQuiet_nil ?_) | (go_big_quiet_want; go_big_quiet_op; go_big_quiet_on; refine wpQuiet_nil ?_) | ((with_reducible apply q_split); exact rfl; intro q hq; cases q <;> (rw [hq]; (try first | replace hq := bnot_t hq | replace hq := bnot_f hq); (try first | replace hq := of_decide_eq_true hq | replace hq := of_decide_eq_false hq | replace hq := eq_of_beq hq); (try first | replace hq := Int.not_lt.1 hq | replace hq := Int.not_le.1 hq | replace hq := Nat.not_lt.1 hq | replace hq := Nat.not_le.1 hq); try (exfalso; omega))) | (refine plan_q rfl rfl ?_) | (refine plan_e rfl ?_; go_wp2_with fail; refine MixPost.intro trivial ?_) | (refine plan_two rfl rfl ?_ ?_) | (refine plan_three rfl rfl rfl ?_ ?_ ?_) | ((with_reducible refine wpl_id ?_); go_wp2_with fail; refine MixPost.intro trivial ?_)))
          refine plan_done ?_
          try simp only [List.drop_succ_cons, List.drop_zero]
          try go_wp2_with fail
          refine NoPanic.normal ?_
          try go_wp2_with fail
          go_roundw
          case rel => exact ⟨xo', xn - 1, xc - 1, xs, yo', yn - 1, yc - 1, ys, _, acc ++ [(⟨x.sy, x.kd, y.cl⟩ : Mk)], rfl, rfl, HTX, HTY, HB_w5.setCell (p := ⟨NO, 1, none⟩) (by dsimp only; omega) _, by simpa [World.size_setCell] using hZ5, Lib.hid (H_o5.out.set 1 _), Lib.hid (H_r5.out.other (by omega)), Lib.hid (HO5.out.setCell (b := NO) (j := 1) (by omega)), HMG3, by simp; omega⟩
          case measure => simp; omega
    · have HMG2 := Lib.hid (show merge a b = (merge (x :: xs) ys).map ((acc ++ [y]) ++ ·) by rw [HMG.out, merge_gt hxy, map_snoc])
      have hle2 : y.sy ≤ x.sy := by omega
      clear e_0 e_1 e_2 d_0 d_1 d_2
      obtain ⟨e_0, e_1, e_2⟩ := (HXR.out.below HB_wr hxb).c3
      obtain ⟨d_0, d_1, d_2⟩ := (HYR.out.below HB_wr hyb).c3
      have y_e_0 := cell_regrown e_0
      have y_e_1 := cell_regrown e_1
      have y_e_2 := cell_regrown e_2
      clear e_0 e_1 e_2
      have y_d_0 := cell_regrown d_0
      have y_d_1 := cell_regrown d_1
      have y_d_2 := cell_regrown d_2
      clear d_0 d_1 d_2
      refine wp_region_plan (C := fun w' => ∃ p : Regrown, w' = grow (redrawn wr p.d) p.os) (.q 0 (.q 1 (.q 2 (.q 3 (.q 4 (.q 5 (.q 6 (.q 7 (.q 8 (.q 9 (.done))))))))))) 10 (by kernel_rfl) (by kernel_rfl) (grew_drew _) ?_
      repeat (any_goals (first | (go_big_quiet_skip; refine wpQuiet_nil ?_) | (go_big_quiet_want; go_big_quiet_op; go_big_quiet_on; refine wpQuiet_nil ?_) | ((with_reducible apply q_split); exact rfl; intro q hq; cases q <;> (rw [hq]; (try first | replace hq := bnot_t hq | replace hq := bnot_f hq); (try first | replace hq := of_decide_eq_true hq | replace hq := of_decide_eq_false hq | replace hq := eq_of_beq hq); (try first | replace hq := Int.not_lt.1 hq | replace hq := Int.not_le.1 hq | replace hq := Nat.not_lt.1 hq | replace hq := Nat.not_le.1 hq); try (exfalso; omega))) | (refine plan_q rfl rfl ?_)))
      clear y_e_0 y_e_1 y_e_2
      clear y_d_0 y_d_1 y_d_2
      all_goals refine plan_done ?_
      all_goals (try simp only [List.drop_succ_cons, List.drop_zero])
      all_goals (try go_wp2_with fail)
      all_goals refine NoPanic.normal ?_
      all_goals (try go_wp2_with fail)
      obtain ⟨Wa, hd_Wa⟩ : ∃ W2, wr.drew = W2 := ⟨_, rfl⟩
      first | rw [hd_Wa] | rw [show ({ wr with drawn := wr.drawn + 1 } : World) = Wa from hd_Wa]
      have HB_Wa : Below w.heap.size w Wa := hd_Wa ▸ HB_wr.drew
      have hdb : Below wr.heap.size wr Wa := hd_Wa ▸ (Below.refl _ _).drew
      replace H_o := Lib.hid (H_o.out.below hdb)
      replace H_r := Lib.hid (H_r.out.below hdb)
      replace HOW := Lib.hid (HOW.out.below hdb)
      have hZ_Wa : NO + 1 ≤ Wa.heap.size := Nat.le_trans hZ_wr hdb.size
      clear hdb hd_Wa
      obtain ⟨e_0, e_1, e_2⟩ := (HXR.out.below HB_Wa hxb).c3
      obtain ⟨d_0, d_1, d_2⟩ := (HYR.out.below HB_Wa hyb).c3
      have y_e_0 := cell_regrown e_0
      have y_e_1 := cell_regrown e_1
      have y_e_2 := cell_regrown e_2
      clear e_0 e_1 e_2
      have y_d_0 := cell_regrown d_0
      have y_d_1 := cell_regrown d_1
      have y_d_2 := cell_regrown d_2
      clear d_0 d_1 d_2
      refine wp_region_plan (C := fun w' => ∃ p : Regrown, w' = grow (redrawn Wa p.d) p.os) (.q 0 (.q 1 (.q 2 (.q 3 (.q 4 (.q 5 (.q 6 (.q 7 (.q 8 (.q 9 (.done))))))))))) 10 (by kernel_rfl) (by kernel_rfl) (grew_drew _) ?_
      repeat (any_goals (first | (go_big_quiet_skip; refine wpQuiet_nil ?_) | (go_big_quiet_want; go_big_quiet_op; go_big_quiet_on; refine wpQuiet_nil ?_) | ((with_reducible apply q_split); exact rfl; intro q hq; cases q <;> (rw [hq]; (try first | replace hq := bnot_t hq | replace hq := bnot_f hq); (try first | replace hq := of_decide_eq_true hq | replace hq := of_decide_eq_false hq | replace hq := eq_of_beq hq); (try first | replace hq := Int.not_lt.1 hq | replace hq := Int.not_le.1 hq | replace hq := Nat.not_lt.1 hq | replace hq := Nat.not_le.1 hq); try (exfalso; omega))) | (refine plan_q rfl rfl ?_)))
      clear y_e_0 y_e_1 y_e_2
      clear y_d_0 y_d_1 y_d_2
      all_goals refine plan_done ?_
      all_goals (try simp only [List.drop_succ_cons, List.drop_zero])
      all_goals (try go_wp2_with fail)
      all_goals refine NoPanic.normal ?_
      all_goals (try go_wp2_with fail)
      obtain ⟨Wc, hd_Wc⟩ : ∃ W2, Wa.drew = W2 := ⟨_, rfl⟩
      first | rw [hd_Wc] | rw [show ({ Wa with drawn := Wa.drawn + 1 } : World) = Wc from hd_Wc]
      have HB_Wc : Below w.heap.size w Wc := hd_Wc ▸ HB_Wa.drew
      have hdb : Below Wa.heap.size Wa Wc := hd_Wc ▸ (Below.refl _ _).drew
      replace H_o := Lib.hid (H_o.out.below hdb)
      replace H_r := Lib.hid (H_r.out.below hdb)
      replace HOW := Lib.hid (HOW.out.below hdb)
      have hZ_Wc : NO + 1 ≤ Wc.heap.size := Nat.le_trans hZ_Wa hdb.size
      clear hdb hd_Wc
      have hZc := hZ_Wc
      obtain ⟨d_0, d_1, d_2⟩ := (HYR.out.below HB_Wc hyb).c3
      have hst := HSTY.out
      obtain ⟨NX, hNX⟩ : ∃ N, Wc.heap.size = N := ⟨_, rfl⟩
      obtain ⟨W3, hW3⟩ : ∃ W3, (Wc.alloc (.cells #[.int .i64 y.sy, .int .i64 y.kd, .int .i64 y.cl] 29)).drew = W3 := ⟨_, rfl⟩
      have hb3 : Below Wc.heap.size Wc W3 := hW3 ▸ (grew1 (Below.refl _ _)).drew
      have HB_W3 : Below w.heap.size w W3 := after0 HB_Wc hb3
      have H_o3 := Lib.hid (H_o.out.below hb3)
      have H_r3 := Lib.hid (H_r.out.below hb3)
      have HOW3 := Lib.hid (HOW.out.below hb3)
      have HX3 : Hid (Sl W3 3 cM (some ⟨NX, 0, none⟩) 1 1 [y]) := by
        have h := (Sl.one (x := y) cM_len (Box.new Wc (cM y) 29)).below (Below.refl _ _).drew
        rw [hNX] at h
        rw [← hW3]; exact h
      have hZ3 : NO + 1 ≤ W3.heap.size := Nat.le_trans hZc hb3.size
      obtain ⟨q_o_0, q_o_1⟩ := H_o.out.c2
      obtain ⟨q3_0, q3_1⟩ := H_o3.out.c2
      refine wp_region_plan (C := fun _ => True) (.q 0 (.q 2 (.q 3 (.q 7 (.q 8 (.two 1 (.e 4 (.e 5 (.e 6 (.q 9 (.e 10 (.q 11 (.done))))))) 4 (.two 1 (.e 5 (.e 6 (.q 9 (.e 10 (.q 11 (.done)))))) 5 (.e 1 (.e 6 (.q 9 (.e 10 (.q 11 (.done))))))))))))) 12 (by kernel_rfl) (by kernel_rfl) trivial ?_
      repeat (any_goals (first | (go_big_quiet_skip; refine wpQuiet_nil ?_) | (go_big_quiet_want; go_big_quiet_op; go_big_quiet_on; refine wpQuiet_nil ?_) | ((with_reducible apply q_split); exact rfl; intro q hq; cases q <;> (rw [hq]; (try first | replace hq := bnot_t hq | replace hq := bnot_f hq); (try first | replace hq := of_decide_eq_true hq | replace hq := of_decide_eq_false hq | replace hq := eq_of_beq hq); (try first | replace hq := Int.not_lt.1 hq | replace hq := Int.not_le.1 hq | replace hq := Nat.not_lt.1 hq | replace hq := Nat.not_le.1 hq); try (exfalso; omega))) | (refine plan_q rfl rfl ?_) | (refine plan_e rfl ?_; go_wp2_with fail; refine MixPost.intro trivial ?_) | (refine plan_two rfl rfl ?_ ?_) | (refine plan_three rfl rfl rfl ?_ ?_ ?_) | ((with_reducible refine wpl_id ?_); go_wp2_with fail; refine MixPost.intro trivial ?_)))
      all_goals
        refine plan_e rfl ?_
        go_wp2_with (at_builtin; refine wpList_append_sl rfl _ _ 22 rfl (NO + 1) 29 i0 _ 3 24 Try.underlying22 HI.out HZ0.out HZ1.out HZ2.out rfl (by decide) cM_len cM_one _ acc rfl HOW3.out (some ⟨NX, 0, none⟩) 1 1 [y] rfl HX3.out (by unfold maxLen; omega) (by omega) hZ3 ?_)
        rintro v5 w5 ho5 hg5 hgr5
        obtain ⟨ao5, cap5, rfl, _⟩ := ho5.sl cM_len
        rw [show (acc ++ [y]).length = acc.length + 1 by simp] at ho5 ⊢
        have H_o5 := Lib.hid (H_o3.out.grown hgr5 (fun e => by have := (HOW3.out.row NO e.symm).1; omega))
        have H_r5 := Lib.hid (H_r3.out.grown hgr5 (fun e => by have := (HOW3.out.row _ e.symm).1; omega))
        have HB_w5 : Below w.heap.size w w5 := HB_W3.trans (hg5 _ (by omega))
        have hZ5 : NO + 1 ≤ w5.heap.size := Nat.le_trans hZ3 hgr5.size
        have HO5 := Lib.hid ho5
        have f5 := H_o5.out.frozen
        obtain ⟨q5_0, q5_1⟩ := H_o5.out.c2
        refine MixPost.intro trivial ?_
        clear hg5 hgr5 ho5
        repeat (any_goals (first | (go_big_quiet_skip; refine wpQuiet_nil ?_) | (go_big_quiet_want; go_big_quiet_op; go_big_quiet_on; refine wpQuiet_nil ?_) | ((with_reducible apply q_split); exact rfl; intro q hq; cases q <;> (rw [hq]; (try first | replace hq := bnot_t hq | replace hq := bnot_f hq); (try first | replace hq := of_decide_eq_true hq | replace hq := of_decide_eq_false hq | replace hq := eq_of_beq hq); (try first | replace hq := Int.not_lt.1 hq | replace hq := Int.not_le.1 hq | replace hq := Nat.not_lt.1 hq | replace hq := Nat.not_le.1 hq); try (exfalso; omega))) | (refine plan_q rfl rfl ?_) | (refine plan_e rfl ?_; go_wp2_with fail; refine MixPost.intro trivial ?_) | (refine plan_two rfl rfl ?_ ?_) | (refine plan_three rfl rfl rfl ?_ ?_ ?_) | ((with_reducible refine wpl_id ?_); go_wp2_with fail; refine MixPost.intro trivial ?_)))
        refine plan_done ?_
        try simp only [List.drop_succ_cons, List.drop_zero]
        try go_wp2_with fail
        refine NoPanic.normal ?_
        try go_wp2_with fail
        go_roundw
        case rel => exact ⟨_, xn, xc, x :: xs, yo', yn - 1, yc - 1, ys, _, acc ++ [y], rfl, rfl, HSX, HTY, HB_w5.setCell (p := ⟨NO, 1, none⟩) (by dsimp only; omega) _, by simpa [World.size_setCell] using hZ5, Lib.hid (H_o5.out.set 1 _), Lib.hid (H_r5.out.other (by omega)), Lib.hid (HO5.out.setCell (b := NO) (j := 1) (by omega)), HMG2, by simp; omega⟩
        case measure => simp; omega
end Go.Proofs.Ytmnlkndbdcdngaa
