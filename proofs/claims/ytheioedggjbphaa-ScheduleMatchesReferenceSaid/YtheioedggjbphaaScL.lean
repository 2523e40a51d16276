/-
  Walks of the layer 'schedule': names, inTime, Done.
-/
import Derived.Test.YtheioedggjbphaaScK
set_option linter.unusedVariables false
namespace Sc
def doneF (l : List Sn) (x : Int) : List Int := (l.filter (fun s => s.job == x)).map Sn.slot
def doneR (l : List Sn) (x : Int) : List Int × Int := if decide (0 ≤ x) && riseB l then (doneF l x, 0) else ([], 1)
theorem doneF_yes {l : List Sn} {x : Int} {k : Nat} (h : k < l.length) (e : l[k].job = x) : doneF (l.take (k + 1)) x = doneF (l.take k) x ++ [l[k].slot] := by
  unfold doneF
  rw [List.take_add_one, List.getElem?_eq_getElem h, Option.toList_some, List.filter_append]
  simp [e]
theorem doneF_no {l : List Sn} {x : Int} {k : Nat} (h : k < l.length) (e : ¬ l[k].job = x) : doneF (l.take (k + 1)) x = doneF (l.take k) x := by
  unfold doneF
  rw [List.take_add_one, List.getElem?_eq_getElem h, Option.toList_some, List.filter_append]
  simp [e]
theorem doneF_len (l : List Sn) (x : Int) (k : Nat) : (doneF (l.take k) x).length ≤ l.length := by
  unfold doneF
  rw [List.length_map]
  exact Nat.le_trans (List.length_filter_le _ _) (List.length_take_le' _ _)
end Sc
namespace Go.Proofs.Ytheioedggjbphaa
open Go Go.RowKit Sc Sk Go.Sort
set_option maxRecDepth 100000 in
set_option maxHeartbeats 4000000 in
theorem names_any (jo : Option Addr) (n cap : Nat) (J : List Jb) (ao : Option Addr) (m capa : Nat) (l : List Sn) (w : World) (hj : Sl w 4 cJ jo n cap J) (hs : Sl w 3 cS ao m capa l) :
    Calls Try.prog 40 #[.slice jo n cap, .slice ao m capa] w (Ret w (.bool (namesB J l))) := by
  have HS := Lib.hid hs
  obtain ⟨W0, hW0, HB_W0, hZ, hb⟩ := boxes1 w [.slice jo n cap] 22
  have HRI := Lib.hid (rising_any ao m capa l W0 (hs.below HB_W0))
  have HCO := Lib.hid (fun W (hW : Below W0.heap.size W0 W) => scontains_any ao m capa l 57 #[.pointer (some ⟨w.heap.size, 0, none⟩)] (fun s => !nameB J s) W ((hs.below HB_W0).below hW) (fun W' x hW' _ => names1_any w.heap.size jo n cap J x W' ((hb.below hW).below hW') (((hj.below HB_W0).below hW).below hW')) (fun args w => by kernel_rfl))
  have HE := Lib.hid (namesB_eq J l)
  generalize namesB J l = v at *
  generalize riseB l = r at *
  generalize l.any (fun s => !nameB J s) = u at *
  clear hj hs hb hZ
  go_enter Try.func40, Try.ntmps40
  go_wp2_with fail
  refine (HRI.out).mono ?_
  rintro e wa ⟨rfl, hb_wa⟩
  have HB_wa : Below w.heap.size w wa := by first | exact after0 HB_W0 hb_wa | exact after1 HB_W0 hb_wa | exact after2 HB_W0 hb_wa | exact after3 HB_W0 hb_wa | exact after4 HB_W0 hb_wa | exact after5 HB_W0 hb_wa
  clear hW0
  cases r
  · have HP := Lib.hid (show v = false by rw [HE.out]; rfl)
    go_wp2_with fail
    all_goals try (exfalso; omega)
    go_ret
    exact ⟨ret_bool' HP.out.symm, HB_wa⟩
  · have HP := Lib.hid (show v = !u by rw [HE.out]; rfl)
    have HC2 := Lib.hid (HCO.out wa hb_wa)
    go_wp2_with fail
    all_goals try (exfalso; omega)
    refine (HC2.out).mono ?_
    rintro e wb ⟨rfl, hb_wb⟩
    have HB_wb : Below w.heap.size w wb := by first | exact after0 HB_wa hb_wb | exact after1 HB_wa hb_wb | exact after2 HB_wa hb_wb | exact after3 HB_wa hb_wb | exact after4 HB_wa hb_wb | exact after5 HB_wa hb_wb
    go_wp2_with fail
    all_goals try (exfalso; omega)
    go_ret
    exact ⟨ret_bool' HP.out.symm, HB_wb⟩
set_option maxRecDepth 100000 in
set_option maxHeartbeats 8000000 in
theorem inTime_any (jo : Option Addr) (n cap : Nat) (J : List Jb) (s : Sn) (w : World) (hj : Sl w 4 cJ jo n cap J) (h0 : 0 ≤ s.job) (h1 : s.job < J.length) :
    Calls Try.prog 44 #[.slice jo n cap, eS s] w (Ret w (.bool (inT J s))) := by
  obtain rfl := hj.len
  have hcap := hj.max
  have hle := hj.le
  unfold maxLen at hcap
  obtain ⟨x0, x1, x2⟩ := s
  dsimp only at h0 h1
  obtain ⟨i, rfl⟩ : ∃ i : Nat, x1 = i := ⟨x1.toNat, by omega⟩
  have hil : i < J.length := by omega
  have HE := Lib.hid (show inT J ⟨x0, i, x2⟩ = decide ((jat J i).ready ≤ x0 ∧ x0 ≤ (jat J i).due) by unfold inT; rw [Int.toNat_natCast])
  rw [jat_get hil] at HE
  generalize inT J ⟨x0, i, x2⟩ = p at *
  dsimp only [eS]
  obtain ⟨W0, hW0, HB_W0, hZ, hn⟩ := boxes1 w [.int .i64 x0, .int .i64 (i : Int), .int .i64 x2] 46
  obtain ⟨n_0, n_1, n_2⟩ := hn.c3
  obtain ⟨bj, offj, rfl, hbj, hrow⟩ := (hj.below HB_W0).get hil
  obtain ⟨e_0, e_1, -, -⟩ := (hrow i hil).c4
  clear hrow hZ hn hj
  generalize J[i] = y at *
  obtain ⟨y0, y1, y2, y3⟩ := y
  dsimp only at e_0 e_1 HE
  go_enter Try.func44, Try.ntmps44
  go_wp2_with fail
  clear hW0
  have y_n_0 := cell_regrown n_0
  have y_n_1 := cell_regrown n_1
  have y_n_2 := cell_regrown n_2
  clear n_0 n_1 n_2
  have y_e_0 := cell_regrown e_0
  have y_e_1 := cell_regrown e_1
  clear e_0 e_1
  by_cases c1 : y0 ≤ x0
  case neg =>
    have HP := Lib.hid (show p = false by rw [HE.out]; exact decide_eq_false (fun h => c1 h.1))
    replace c1 := Int.not_le.1 c1
    clear HE
    refine wp_region_plan (C := fun w' => ∃ p : Regrown, w' = grow (redrawn W0 p.d) p.os) (.q 0 (.q 1 (.q 2 (.q 3 (.q 4 (.q 5 (.q 6 (.q 7 (.q 8 (.q 9 (.q 10 (.q 11 (.q 12 (.q 13 (.q 14 (.q 15 (.q 16 (.q 17 (.q 18 (.q 19 (.q 20 (.done)))))))))))))))))))))) 21 (by kernel_rfl) (by kernel_rfl) (grew_drew _) ?_
    repeat (any_goals (first | (go_big_quiet_skip; refine wpQuiet_nil ?_) | (go_big_quiet_want; go_big_quiet_op; go_big_quiet_on; refine wpQuiet_nil ?_) | ((with_reducible apply q_split); exact rfl; intro q hq; cases q <;> (rw [hq]; (try first | replace hq := bnot_t hq | replace hq := bnot_f hq); (try first | replace hq := of_decide_eq_true hq | replace hq := of_decide_eq_false hq | replace hq := eq_of_beq hq); (try first | replace hq := Int.not_lt.1 hq | replace hq := Int.not_le.1 hq | replace hq := Nat.not_lt.1 hq | replace hq := Nat.not_le.1 hq); try (exfalso; omega))) | (refine plan_q rfl rfl ?_)))
    clear y_n_0 y_n_1 y_n_2
    clear y_e_0 y_e_1
    all_goals refine plan_done ?_
    all_goals (try simp only [List.drop_succ_cons, List.drop_zero])
    all_goals (try go_wp2_with fail)
    all_goals refine NoPanic.normal ?_
    all_goals (try go_wp2_with fail)
    all_goals
      go_ret
      exact ⟨ret_bool' (by first | exact HP.out.symm | (rw [HP.out]; exact decide_eq_false (by omega)) | (rw [HP.out]; exact decide_eq_true (by omega))), HB_W0.drew⟩
  by_cases c2 : x0 ≤ y1
  case neg =>
    have HP := Lib.hid (show p = false by rw [HE.out]; exact decide_eq_false (fun h => c2 h.2))
    replace c2 := Int.not_le.1 c2
    clear HE
    refine wp_region_plan (C := fun w' => ∃ p : Regrown, w' = grow (redrawn W0 p.d) p.os) (.q 0 (.q 1 (.q 2 (.q 3 (.q 4 (.q 5 (.q 6 (.q 7 (.q 8 (.q 9 (.q 10 (.q 11 (.q 12 (.q 13 (.q 14 (.q 15 (.q 16 (.q 17 (.q 18 (.q 19 (.q 20 (.done)))))))))))))))))))))) 21 (by kernel_rfl) (by kernel_rfl) (grew_drew _) ?_
    repeat (any_goals (first | (go_big_quiet_skip; refine wpQuiet_nil ?_) | (go_big_quiet_want; go_big_quiet_op; go_big_quiet_on; refine wpQuiet_nil ?_) | ((with_reducible apply q_split); exact rfl; intro q hq; cases q <;> (rw [hq]; (try first | replace hq := bnot_t hq | replace hq := bnot_f hq); (try first | replace hq := of_decide_eq_true hq | replace hq := of_decide_eq_false hq | replace hq := eq_of_beq hq); (try first | replace hq := Int.not_lt.1 hq | replace hq := Int.not_le.1 hq | replace hq := Nat.not_lt.1 hq | replace hq := Nat.not_le.1 hq); try (exfalso; omega))) | (refine plan_q rfl rfl ?_)))
    clear y_n_0 y_n_1 y_n_2
    clear y_e_0 y_e_1
    all_goals refine plan_done ?_
    all_goals (try simp only [List.drop_succ_cons, List.drop_zero])
    all_goals (try go_wp2_with fail)
    all_goals refine NoPanic.normal ?_
    all_goals (try go_wp2_with fail)
    all_goals
      go_ret
      exact ⟨ret_bool' (by first | exact HP.out.symm | (rw [HP.out]; exact decide_eq_false (by omega)) | (rw [HP.out]; exact decide_eq_true (by omega))), HB_W0.drew⟩
  have HP := Lib.hid (show p = true by rw [HE.out]; exact decide_eq_true ⟨c1, c2⟩)
  clear HE
  refine wp_region_plan (C := fun w' => ∃ p : Regrown, w' = grow (redrawn W0 p.d) p.os) (.q 0 (.q 1 (.q 2 (.q 3 (.q 4 (.q 5 (.q 6 (.q 7 (.q 8 (.q 9 (.q 10 (.q 11 (.q 12 (.q 13 (.q 14 (.q 15 (.q 16 (.q 17 (.q 18 (.q 19 (.q 20 (.done)))))))))))))))))))))) 21 (by kernel_rfl) (by kernel_rfl) (grew_drew _) ?_
  repeat (any_goals (first | (go_big_quiet_skip; refine wpQuiet_nil ?_) | (go_big_quiet_want; go_big_quiet_op; go_big_quiet_on; refine wpQuiet_nil ?_) | ((with_reducible apply q_split); exact rfl; intro q hq; cases q <;> (rw [hq]; (try first | replace hq := bnot_t hq | replace hq := bnot_f hq); (try first | replace hq := of_decide_eq_true hq | replace hq := of_decide_eq_false hq | replace hq := eq_of_beq hq); (try first | replace hq := Int.not_lt.1 hq | replace hq := Int.not_le.1 hq | replace hq := Nat.not_lt.1 hq | replace hq := Nat.not_le.1 hq); try (exfalso; omega))) | (refine plan_q rfl rfl ?_)))
  clear y_n_0 y_n_1 y_n_2
  clear y_e_0 y_e_1
  all_goals refine plan_done ?_
  all_goals (try simp only [List.drop_succ_cons, List.drop_zero])
  all_goals (try go_wp2_with fail)
  all_goals refine NoPanic.normal ?_
  all_goals (try go_wp2_with fail)
  all_goals
    go_ret
    exact ⟨ret_bool' (by first | exact HP.out.symm | (rw [HP.out]; exact decide_eq_false (by omega)) | (rw [HP.out]; exact decide_eq_true (by omega))), HB_W0.drew⟩
set_option maxRecDepth 100000 in
set_option maxHeartbeats 8000000 in
theorem Done_any (ao : Option Addr) (n cap : Nat) (l : List Sn) (x : Int) (w : World) (hs : Sl w 3 cS ao n cap l) (hl : l.length ≤ 100000) : Calls Try.prog 27 #[.slice ao n cap, .int .i64 x] w (IsE w (doneR l x)) := by
  obtain rfl := hs.len
  have hcap := hs.max
  have hle := hs.le
  unfold maxLen at hcap
  have HS := Lib.hid hs
  have HB_w : Below w.heap.size w w := Below.refl _ _
  obtain ⟨i0, hi, hz0, hz1, hz2⟩ := info_parts info_int
  have HI := Lib.hid hi
  have HZ0 := Lib.hid hz0
  have HZ1 := Lib.hid hz1
  have HZ2 := Lib.hid hz2
  have HR := Lib.hid (rising_any ao l.length cap l w hs)
  have HE := Lib.hid (show doneR l x = if (decide (0 ≤ x) && riseB l) = true then (doneF l x, 0) else ([], 1) from rfl)
  generalize doneR l x = r at *
  clear hi hz0 hz1 hz2 hs
  go_enter Try.func27, Try.ntmps27
  by_cases hx : 0 ≤ x
  case neg =>
    have HP := Lib.hid (show r = ([], 1) by rw [HE.out, decide_eq_false hx]; rfl)
    replace hx := Int.not_le.1 hx
    go_wp2_with fail
    all_goals try (exfalso; omega)
    go_ret2
    exact ⟨.slice none 0 0, by rw [HP.out]; rfl, by rw [HP.out]; exact OwnL.nil, HB_w⟩
  rw [decide_eq_true hx] at HE
  cases hri : riseB l with
  | false =>
    rw [hri] at HR HE
    have HP := Lib.hid (show r = ([], 1) from HE.out)
    clear HE hri
    go_wp2_with fail
    all_goals try (exfalso; omega)
    refine (HR.out).mono ?_
    rintro e wa ⟨rfl, hb_wa⟩
    have HB_wa : Below w.heap.size w wa := by first | exact after0 HB_w hb_wa | exact after1 HB_w hb_wa | exact after2 HB_w hb_wa | exact after3 HB_w hb_wa | exact after4 HB_w hb_wa | exact after5 HB_w hb_wa
    go_wp2_with fail
    all_goals try (exfalso; omega)
    go_ret2
    exact ⟨.slice none 0 0, by rw [HP.out]; rfl, by rw [HP.out]; exact OwnL.nil, HB_wa⟩
  | true =>
  rw [hri] at HR HE
  have HP := Lib.hid (show r = (doneF l x, 0) from HE.out)
  clear HE hri
  go_wp2_with fail
  all_goals try (exfalso; omega)
  refine (HR.out).mono ?_
  rintro e wa ⟨rfl, hb_wa⟩
  have HB_wa : Below w.heap.size w wa := by first | exact after0 HB_w hb_wa | exact after1 HB_w hb_wa | exact after2 HB_w hb_wa | exact after3 HB_w hb_wa | exact after4 HB_w hb_wa | exact after5 HB_w hb_wa
  have HYE := Lib.hid (fun k h e => @doneF_yes l x k h e)
  have HNO := Lib.hid (fun k h e => @doneF_no l x k h e)
  have HLE := Lib.hid (doneF_len l x)
  go_wp2_with fail
  all_goals try (exfalso; omega)
  go_loopw [6, 18] (fun o i wr => ∃ k : Nat, k ≤ l.length ∧ i = .int .i64 k ∧ Below w.heap.size w wr ∧ Hid (OwnL wr w.heap.size 3 1 cI o (doneF (l.take k) x))) (fun _ i _ => l.length - (intOf i).toNat)
  case atStart => exact ⟨0, Nat.zero_le _, rfl, HB_wa, OwnL.nil⟩
  case round =>
    obtain ⟨k, hk, rfl, HB_wr, HO⟩ := hrel
    have hyl := HLE.out k
    by_cases hlt : k < l.length
    · obtain ⟨b, off, rfl, hb, hrow⟩ := HS.out.get hlt
      obtain ⟨e_0, e_1, e_2⟩ := ((hrow k hlt).below HB_wr hb).c3
      have HY1 := Lib.hid (HYE.out k hlt)
      have HN1 := Lib.hid (HNO.out k hlt)
      clear hrow
      generalize l[k] = y at *
      generalize doneF (l.take k) x = us at *
      obtain ⟨y0, y1, y2⟩ := y
      dsimp only at e_0 e_1 e_2 HY1 HN1
      obtain ⟨R, hR⟩ : ∃ R, wr.heap.size = R := ⟨_, rfl⟩
      obtain ⟨W1, hW1, hB1, hZ1, hb1⟩ := boxes1 wr [.int .i64 y0, .int .i64 y1, .int .i64 y2] 46
      rw [hR] at hb1
      have HB_W1 : Below w.heap.size w W1 := after0 HB_wr hB1
      replace HO := Lib.hid (HO.out.below hB1)
      obtain ⟨f_0, f_1, f_2⟩ := hb1.c3
      clear hb1 hB1 hZ1
      by_cases hyx : y1 = x
      · have HNX := Lib.hid (HY1.out hyx)
        have hb : (y1 == x) = true := by simpa using hyx
        clear HN1 HY1 hyx
        have HOX := Lib.hid (HO.out.alloc (.cells #[.int .i64 y0] 3))
        have HSX : Hid (Sl (W1.alloc (.cells #[.int .i64 y0] 3)) 1 cI (some ⟨W1.heap.size, 0, none⟩) 1 1 [y0]) := Sl.one (x := y0) cI_len (Box.new W1 (cI y0) 3)
        have hsz : w.heap.size ≤ (W1.alloc (.cells #[.int .i64 y0] 3)).heap.size := by have := HB_W1.size; simp; omega
        go_wp2_with (at_builtin; refine wpList_append_sl rfl _ _ 30 rfl w.heap.size 3 i0 _ 1 8 Try.underlying30 HI.out HZ0.out HZ1.out HZ2.out rfl (by decide) cI_len cI_one _ us rfl HOX.out (some ⟨W1.heap.size, 0, none⟩) 1 1 [y0] rfl HSX.out (by unfold maxLen; omega) (by omega) hsz ?_)
        rintro v' w6 ho6 hg6 hgr6
        have HB_6 : Below w.heap.size w w6 := (grew1 HB_W1).trans (hg6 _ (Nat.le_refl _))
        have HO6 := Lib.hid ho6
        clear hg6 hgr6 ho6 HOX HSX hsz HO
        clear hW1 hR
        go_wp2_with fail
        go_roundw
        case rel => exact ⟨k + 1, hlt, by go_num, HB_6, by rw [HNX.out]; exact HO6.out⟩
        case measure => simp [intOf] <;> omega
      · have HNX := Lib.hid (HN1.out hyx)
        have hb : (y1 == x) = false := by simpa using hyx
        clear HN1 HY1 hyx
        go_wp2_with fail
        all_goals try (exfalso; omega)
        go_roundw
        case rel => exact ⟨k + 1, hlt, by go_num, HB_W1, by rw [HNX.out]; exact HO.out⟩
        case measure => simp [intOf] <;> omega
    · obtain rfl : k = l.length := by omega
      rw [List.take_length] at HO
      go_wp2_with fail
      all_goals try (exfalso; omega)
      go_ret2
      exact ⟨_, by rw [HP.out]; rfl, by rw [HP.out]; exact HO.out, HB_wr⟩
end Go.Proofs.Ytheioedggjbphaa
