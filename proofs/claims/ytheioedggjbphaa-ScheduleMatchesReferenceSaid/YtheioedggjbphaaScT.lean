/-
  Walks of the layer 'schedule': the stable sort of the indices, for few jobs.
-/
import Derived.Test.YtheioedggjbphaaScS
set_option linter.unusedVariables false
namespace Go.Proofs.Ytheioedggjbphaa
open Go Go.RowKit Sc Sk Go.Sort
set_option maxRecDepth 100000 in
set_option maxHeartbeats 4000000 in
theorem asked1_any (b : Nat) (jo : Option Addr) (n cap : Nat) (J : List Jb) (i k : Nat) (w : World) (h : Box w b 22 [.slice jo n cap]) (hj : Sl w 4 cJ jo n cap J) (hi : i < J.length) (hk : k < J.length) :
    Calls Try.prog 60 #[.int .i64 i, .int .i64 k, .pointer (some ⟨b, 0, none⟩)] w (Ret w (.int .i64 (cmpI (jat J k).prio (jat J i).prio))) := by
  obtain rfl := hj.len
  have hcapj := hj.max
  have hlej := hj.le
  unfold maxLen at hcapj
  have h_0 := h.c1
  obtain ⟨bj, offj, rfl, hbj, hrow⟩ := hj.get hi
  have e_3 := (hrow i hi).c4.2.2.2
  have f_3 := (hrow k hk).c4.2.2.2
  rw [jat_get hi, jat_get hk]
  have hii : (i : Int) < (J.length : Int) := by omega
  have hki : (k : Int) < (J.length : Int) := by omega
  have HC := Lib.hid (fun W => compare_any J[k].prio J[i].prio W)
  clear hrow h hj
  generalize J[i].prio = x at *
  generalize J[k].prio = y at *
  generalize cmpI y x = c at *
  go_enter Try.func60, Try.ntmps60
  go_wp2_with fail
  have y_1 := cell_regrown h_0
  have y_2 := cell_regrown e_3
  have y_3 := cell_regrown f_3
  clear h_0 e_3 f_3
  refine wp_region_plan (C := fun w' => ∃ p : Regrown, w' = grow (redrawn w p.d) p.os) (.q 0 (.q 1 (.q 2 (.q 3 (.q 4 (.q 5 (.q 6 (.q 7 (.q 8 (.q 9 (.e 10 (.q 11 (.done))))))))))))) 12 (by kernel_rfl) (by kernel_rfl) (grew_drew _) ?_
  repeat (any_goals (first | (go_big_quiet_skip; refine wpQuiet_nil ?_) | (go_big_quiet_want; go_big_quiet_op; go_big_quiet_on; refine wpQuiet_nil ?_) | ((with_reducible apply q_split); exact rfl; intro q hq; cases q <;> (rw [hq]; (try first | replace hq := bnot_t hq | replace hq := bnot_f hq); (try first | replace hq := of_decide_eq_true hq | replace hq := of_decide_eq_false hq | replace hq := eq_of_beq hq); (try first | replace hq := Int.not_lt.1 hq | replace hq := Int.not_le.1 hq | replace hq := Nat.not_lt.1 hq | replace hq := Nat.not_le.1 hq); try (exfalso; omega))) | (refine plan_q rfl rfl ?_)))
  refine plan_e rfl ?_
  go_wp2_with fail
  refine (HC.out _).mono ?_
  rintro e wa ⟨rfl, hb_wa⟩
  have HW_wa : Below w.heap.size w wa := below_undrew hb_wa
  clear hb_wa
  go_wp2_with fail
  refine MixPost.intro (grew_of_below HW_wa) ?_
  repeat (any_goals (first | (go_big_quiet_skip; refine wpQuiet_nil ?_) | (go_big_quiet_want; go_big_quiet_op; go_big_quiet_on; refine wpQuiet_nil ?_) | ((with_reducible apply q_split); exact rfl; intro q hq; cases q <;> (rw [hq]; (try first | replace hq := bnot_t hq | replace hq := bnot_f hq); (try first | replace hq := of_decide_eq_true hq | replace hq := of_decide_eq_false hq | replace hq := eq_of_beq hq); (try first | replace hq := Int.not_lt.1 hq | replace hq := Int.not_le.1 hq | replace hq := Nat.not_lt.1 hq | replace hq := Nat.not_le.1 hq); try (exfalso; omega))) | (refine plan_q rfl rfl ?_)))
  clear y_1 y_2 y_3
  all_goals refine plan_done ?_
  all_goals (try simp only [List.drop_succ_cons, List.drop_zero])
  all_goals (try go_wp2_with fail)
  all_goals refine NoPanic.normal ?_
  all_goals (try go_wp2_with fail)
  go_ret
  exact ⟨rfl, HW_wa⟩
set_option maxRecDepth 100000 in
set_option maxHeartbeats 8000000 in
theorem insort_any (b S base : Nat) (jo : Option Addr) (n cap : Nat) (J : List Jb) (q : List Nat) (w : World) (hb : ∀ W, Below S w W → Box W b 22 [.slice jo n cap]) (hj : ∀ W, Below S w W → Sl W 4 cJ jo n cap J) (ho : OwnL w base 3 1 cN (.slice (some ⟨S, 0, none⟩) q.length q.length) q)
    (hlen : q.length = J.length) (hl : J.length ≤ 100) (hq : q = List.range J.length) (hbs : base ≤ S) :
    Calls Try.prog 83 #[.slice (some ⟨S, 0, none⟩) q.length q.length, .int .i64 0, .int .i64 q.length, .func (.func 60) #[] #[.pointer (some ⟨b, 0, none⟩)]] w
      (fun e w' => e = .returned (.tuple #[]) ∧ ∃ q', OwnL w' base 3 1 cN (.slice (some ⟨S, 0, none⟩) q.length q.length) q' ∧ AskL J q' ∧ q'.length = q.length ∧ Below S w w') := by
  have HB := Lib.hid hb
  have HJ := Lib.hid hj
  have HO := Lib.hid ho
  have heg : ∀ args w, (callFunc 60 args).run Try.prog w = .ok (.enter 60 args) w := fun args w => by kernel_rfl
  have HST := Lib.hid (fun hn => OutI.start J (n := J.length) hq hn)
  have HNIL := Lib.hid (show J.length = 0 → AskL J q from fun h0 => ⟨by rw [hq], fun a b h1 h2 => by omega⟩)
  obtain ⟨L, hL⟩ : ∃ L, q.length = L := ⟨_, rfl⟩
  have HQL := Lib.hid hL
  rw [hL] at HO hlen ⊢
  have HLEN := Lib.hid hlen
  have hL100 : L ≤ 100 := by omega
  clear hb hj ho hq hL hlen hl
  go_enter Try.func83, Try.ntmps83
  go_wp2_with fail
  go_loopw [8] (fun i wr => ∃ (k : Nat) (q' : List Nat), 1 ≤ k ∧ (k ≤ L ∨ k = 1) ∧ i = .int .i64 k ∧ q'.length = L ∧ Hid (OwnL wr base 3 1 cN (.slice (some ⟨S, 0, none⟩) L L) q') ∧ Below S w wr ∧ Hid (0 < L → OutI J q' k) ∧ Hid (L = 0 → q' = q)) (fun i _ => L - (intOf i).toNat)
  case atStart => exact ⟨1, q, by omega, .inr rfl, by go_num, HQL.out, HO, Below.refl _ _, fun h => HST.out (by have := HLEN.out; omega), fun _ => rfl⟩
  case round =>
    clear HO HST
    obtain ⟨k, q', hk1, hk, rfl, hql, HO, HB_wr, HOI, HNQ⟩ := hrel
    by_cases hlt : k < L
    · have HII := Lib.hid (InsI.start (HOI.out (by omega)) (by omega))
      have hki : (k : Int) < (L : Int) := by omega
      clear HOI HNQ
      go_wp2_with fail
      go_loopw [9] (fun js wr => ∃ (j : Nat) (q' : List Nat), js = .int .i64 j ∧ q'.length = L ∧ Hid (OwnL wr base 3 1 cN (.slice (some ⟨S, 0, none⟩) L L) q') ∧ Below S w wr ∧ Hid (InsI J q' k j)) (fun js _ => (intOf js).toNat)
      case atStart => exact ⟨k, q', rfl, hql, HO, HB_wr, HII⟩
      case round =>
        clear HO HII HB_wr hql
        obtain ⟨j, q', rfl, hql, HO, HB_wr, HII⟩ := hrel
        have hjk := HII.out.ji
        rcases j with _ | j
        · have HN := Lib.hid (HII.out.stop (.inl rfl))
          rw [show ((0 : Nat) : Int) = 0 from rfl]
          go_wp2_with fail
          refine wp_region_plan (C := fun w' => ∃ p : Regrown, w' = grow (redrawn wr p.d) p.os) (.q 0 (.q 1 (.q 2 (.q 3 (.q 4 (.q 5 (.q 6 (.q 7 (.q 8 (.q 9 (.q 10 (.q 11 (.q 12 (.q 13 (.e 14 (.q 15 (.q 16 (.done)))))))))))))))))) 17 (by kernel_rfl) (by kernel_rfl) (grew_drew _) ?_
          repeat (any_goals (first | (go_big_quiet_skip; refine wpQuiet_nil ?_) | (go_big_quiet_want; go_big_quiet_op; go_big_quiet_on; refine wpQuiet_nil ?_) | ((with_reducible apply q_split); exact rfl; intro q hq; cases q <;> (rw [hq]; (try first | replace hq := bnot_t hq | replace hq := bnot_f hq); (try first | replace hq := of_decide_eq_true hq | replace hq := of_decide_eq_false hq | replace hq := eq_of_beq hq); (try first | replace hq := Int.not_lt.1 hq | replace hq := Int.not_le.1 hq | replace hq := Nat.not_lt.1 hq | replace hq := Nat.not_le.1 hq); try (exfalso; omega))) | (refine plan_q rfl rfl ?_)))
          refine plan_e rfl ?_
          go_wp2_with fail
          refine MixPost.intro (by first | exact grew_drew _ | exact grew_of_below (by assumption)) ?_
          repeat (any_goals (first | (go_big_quiet_skip; refine wpQuiet_nil ?_) | (go_big_quiet_want; go_big_quiet_op; go_big_quiet_on; refine wpQuiet_nil ?_) | ((with_reducible apply q_split); exact rfl; intro q hq; cases q <;> (rw [hq]; (try first | replace hq := bnot_t hq | replace hq := bnot_f hq); (try first | replace hq := of_decide_eq_true hq | replace hq := of_decide_eq_false hq | replace hq := eq_of_beq hq); (try first | replace hq := Int.not_lt.1 hq | replace hq := Int.not_le.1 hq | replace hq := Nat.not_lt.1 hq | replace hq := Nat.not_le.1 hq); try (exfalso; omega))) | (refine plan_q rfl rfl ?_)))
          all_goals refine plan_done ?_
          all_goals (try simp only [List.drop_succ_cons, List.drop_zero])
          all_goals (try go_wp2_with fail)
          all_goals refine NoPanic.normal ?_
          all_goals (try go_wp2_with fail)
          go_roundw
          case rel => exact ⟨k + 1, q', by omega, .inl hlt, by go_num, hql, HO.out.drew, HB_wr.drew, fun _ => HN.out, fun h => absurd h (by omega)⟩
          case measure => simp [intOf] <;> omega
        · have hq1 : q'[j + 1]? = some (at_ q' (j + 1)) := by rw [at_get (by omega), List.getElem?_eq_getElem]
          have hq2 : q'[j]? = some (at_ q' j) := by rw [at_get (by omega), List.getElem?_eq_getElem]
          have g_0 := HO.out.cellG cN_len (j := j + 1) (i := 0) hq1 rfl
          have g_1 := HO.out.cellG cN_len (j := j) (i := 0) hq2 rfl
          simp only [Nat.mul_one, Nat.add_zero] at g_0 g_1
          have hxl : at_ q' (j + 1) < J.length := by
            have := HII.out.perm.mem_iff.1 (List.mem_of_getElem? hq1)
            rw [List.mem_range] at this
            have := HLEN.out
            omega
          have hyl : at_ q' j < J.length := by
            have := HII.out.perm.mem_iff.1 (List.mem_of_getElem? hq2)
            rw [List.mem_range] at this
            have := HLEN.out
            omega
          have hSl : S < wr.heap.size := (World.ownsRow.lt HO.out S rfl).2
          have HSTEP := Lib.hid (fun hp => HII.out.step hp)
          have HSTOP := Lib.hid (fun hp => HII.out.stop (.inr ⟨j, rfl, hp⟩))
          have HA := Lib.hid (fun W (hW : Below wr.heap.size wr W) => asked1_any b jo n cap J (at_ q' (j + 1)) (at_ q' j) W (HB.out W (HB_wr.trans (hW.mono (by omega)))) (HJ.out W (HB_wr.trans (hW.mono (by omega)))) hxl hyl)
          have HQ1 := Lib.hid hq1
          have HQ2 := Lib.hid hq2
          have HSW := Lib.hid (show (q'.set (j + 1) (at_ q' j)).set j (at_ q' (j + 1)) = Sc.swp q' (j + 1) j from rfl)
          clear hq1 hq2 hxl hyl
          generalize at_ q' (j + 1) = x at *
          generalize at_ q' j = y at *
          have hjli : (j : Int) + 1 < (L : Int) := by omega
          have hjj : ((j + 1 : Nat) : Int) = (j : Int) + 1 := by omega
          rw [hjj]
          by_cases hc : (jat J y).prio < (jat J x).prio
          · have hcm : cmpI (jat J y).prio (jat J x).prio = -1 := by unfold cmpI; rw [if_pos hc]
            rw [hcm] at HA
            have HSN := Lib.hid (HSTEP.out hc)
            clear hcm hc HSTEP HSTOP
            go_wp2_with fail
            have y_1 := cell_regrown g_0
            have y_2 := cell_regrown g_1
            clear g_0 g_1
            refine wp_region_plan (C := fun w' => ∃ p : Regrown, w' = grow (redrawn wr p.d) p.os) (.q 0 (.q 1 (.q 2 (.q 3 (.q 4 (.q 5 (.q 6 (.q 7 (.q 8 (.q 9 (.q 10 (.q 11 (.q 12 (.q 13 (.e 14 (.q 15 (.q 16 (.done)))))))))))))))))) 17 (by kernel_rfl) (by kernel_rfl) (grew_drew _) ?_
            repeat (any_goals (first | (go_big_quiet_skip; refine wpQuiet_nil ?_) | (go_big_quiet_want; go_big_quiet_op; go_big_quiet_on; refine wpQuiet_nil ?_) | ((with_reducible apply q_split); exact rfl; intro q hq; cases q <;> (rw [hq]; (try first | replace hq := bnot_t hq | replace hq := bnot_f hq); (try first | replace hq := of_decide_eq_true hq | replace hq := of_decide_eq_false hq | replace hq := eq_of_beq hq); (try first | replace hq := Int.not_lt.1 hq | replace hq := Int.not_le.1 hq | replace hq := Nat.not_lt.1 hq | replace hq := Nat.not_le.1 hq); try (exfalso; omega))) | (refine plan_q rfl rfl ?_)))
            refine plan_e rfl ?_
            go_wp2_with fail
            refine (HA.out _ (Below.refl _ _).drew).mono ?_
            rintro e w3 ⟨rfl, hb_w3⟩
            have HW_w3 : Below wr.heap.size wr w3 := below_undrew hb_w3
            clear hb_w3
            go_wp2_with fail
            refine MixPost.intro (grew_of_below HW_w3) ?_
            repeat (any_goals (first | (go_big_quiet_skip; refine wpQuiet_nil ?_) | (go_big_quiet_want; go_big_quiet_op; go_big_quiet_on; refine wpQuiet_nil ?_) | ((with_reducible apply q_split); exact rfl; intro q hq; cases q <;> (rw [hq]; (try first | replace hq := bnot_t hq | replace hq := bnot_f hq); (try first | replace hq := of_decide_eq_true hq | replace hq := of_decide_eq_false hq | replace hq := eq_of_beq hq); (try first | replace hq := Int.not_lt.1 hq | replace hq := Int.not_le.1 hq | replace hq := Nat.not_lt.1 hq | replace hq := Nat.not_le.1 hq); try (exfalso; omega))) | (refine plan_q rfl rfl ?_)))
            clear y_1 y_2
            all_goals refine plan_done ?_
            all_goals (try simp only [List.drop_succ_cons, List.drop_zero])
            all_goals (try go_wp2_with fail)
            all_goals refine NoPanic.normal ?_
            all_goals (try go_wp2_with fail)
            obtain ⟨V, hV⟩ : ∃ V, w3.drew = V := ⟨_, rfl⟩
            have hdr : Below wr.heap.size wr V := HW_w3.trans (hV ▸ ((Below.refl w3.heap.size w3).drew.mono HW_w3.size))
            have HOV := Lib.hid (HO.out.below hdr)
            have HB_V : Below S w V := HB_wr.trans (hdr.mono (by omega))
            have g_0 := HOV.out.cellG cN_len (j := j + 1) (i := 0) HQ1.out rfl
            have g_1 := HOV.out.cellG cN_len (j := j) (i := 0) HQ2.out rfl
            have g_f := HOV.out.frozenG
            have hs1 := OwnL.setG cN_len HOV.out (j := j + 1) (by omega) (i := 0) (by decide) (u := .int .i64 (y : Int)) (a := y) rfl
            have hs2 := OwnL.setG cN_len hs1.1 (j := j) (by rw [List.length_set]; omega) (i := 0) (by decide) (u := .int .i64 (x : Int)) (a := x) rfl
            simp only [Nat.mul_one, Nat.add_zero] at g_0 g_1 hs1 hs2
            have hg1 := hs1.1.cellG cN_len (j := j) (i := 0) (a := y) (by rw [List.getElem?_set_ne (by omega)]; exact HQ2.out) rfl
            have hf1 := hs1.1.frozenG
            simp only [Nat.mul_one, Nat.add_zero] at hg1
            have HS1 := Lib.hid hs1
            have HS2 := Lib.hid hs2
            clear hs1 hs2
            obtain ⟨V1, hV1⟩ : ∃ V1, V.setCell ⟨S, j + 1, none⟩ (.int .i64 (y : Int)) = V1 := ⟨_, rfl⟩
            rw [hV1] at HS1 HS2 hg1 hf1
            obtain ⟨V2, hV2⟩ : ∃ V2, V1.setCell ⟨S, j, none⟩ (.int .i64 (x : Int)) = V2 := ⟨_, rfl⟩
            rw [hV2] at HS2
            have HO2 := Lib.hid (show OwnL V2 base 3 1 cN (.slice (some ⟨S, 0, none⟩) L L) (Sc.swp q' (j + 1) j) by rw [← HSW.out]; exact HS2.out.1)
            have HB_V2 : Below S w V2 := by
              rw [← hV2, ← hV1]
              exact (HB_V.setCell (p := ⟨S, j + 1, none⟩) (Nat.le_refl S) _).setCell (p := ⟨S, j, none⟩) (Nat.le_refl S) _
            have y_n : Nonempty (Wc (fun W => True)) := ⟨⟨V, trivial⟩⟩
            clear hdr HOV HS1 HS2 HSW HB_V HW_w3 HA HQ1 HQ2
            refine wp_region_plan (C := fun w' => ∃ p : Wc (fun W => True), w' = p.w) (.q 0 (.q 1 (.q 2 (.q 3 (.q 4 (.q 5 (.q 6 (.q 7 (.q 8 (.q 10 (.q 11 (.q 12 (.two 9 (.e 13 (.q 14 (.e 15 (.q 16 (.e 17 (.done)))))) 13 (.e 9 (.q 14 (.e 15 (.q 16 (.e 17 (.done))))))))))))))))))) 18 (by kernel_rfl) (by kernel_rfl) ⟨⟨_, ?_⟩, rfl⟩ ?_
            · trivial
            repeat (any_goals (first | (go_big_quiet_skip; refine wpQuiet_nil ?_) | (go_big_quiet_want; go_big_quiet_op; go_big_quiet_on; refine wpQuiet_nil ?_) | ((with_reducible apply q_split); exact rfl; intro q hq; cases q <;> (rw [hq]; (try first | replace hq := bnot_t hq | replace hq := bnot_f hq); (try first | replace hq := of_decide_eq_true hq | replace hq := of_decide_eq_false hq | replace hq := eq_of_beq hq); (try first | replace hq := Int.not_lt.1 hq | replace hq := Int.not_le.1 hq | replace hq := Nat.not_lt.1 hq | replace hq := Nat.not_le.1 hq); try (exfalso; omega))) | (refine plan_q rfl rfl ?_)))
            rw [show ({ heap := w3.heap, tape := w3.tape, drawn := w3.drawn + 1, os := w3.os, output := w3.output } : World) = V from hV]
            refine plan_two rfl rfl ?_ ?_
            all_goals
              go_wp2_with fail
              refine MixPost.intro ⟨⟨_, trivial⟩, rfl⟩ ?_
              repeat (any_goals (first | (go_big_quiet_skip; refine wpQuiet_nil ?_) | (go_big_quiet_want; go_big_quiet_op; go_big_quiet_on; refine wpQuiet_nil ?_) | ((with_reducible apply q_split); exact rfl; intro q hq; cases q <;> (rw [hq]; (try first | replace hq := bnot_t hq | replace hq := bnot_f hq); (try first | replace hq := of_decide_eq_true hq | replace hq := of_decide_eq_false hq | replace hq := eq_of_beq hq); (try first | replace hq := Int.not_lt.1 hq | replace hq := Int.not_le.1 hq | replace hq := Nat.not_lt.1 hq | replace hq := Nat.not_le.1 hq); try (exfalso; omega))) | (refine plan_q rfl rfl ?_)))
              refine plan_e rfl ?_
              go_wp2_with fail
              refine MixPost.intro ⟨⟨_, trivial⟩, rfl⟩ ?_
              repeat (any_goals (first | (go_big_quiet_skip; refine wpQuiet_nil ?_) | (go_big_quiet_want; go_big_quiet_op; go_big_quiet_on; refine wpQuiet_nil ?_) | ((with_reducible apply q_split); exact rfl; intro q hq; cases q <;> (rw [hq]; (try first | replace hq := bnot_t hq | replace hq := bnot_f hq); (try first | replace hq := of_decide_eq_true hq | replace hq := of_decide_eq_false hq | replace hq := eq_of_beq hq); (try first | replace hq := Int.not_lt.1 hq | replace hq := Int.not_le.1 hq | replace hq := Nat.not_lt.1 hq | replace hq := Nat.not_le.1 hq); try (exfalso; omega))) | (refine plan_q rfl rfl ?_)))
              refine plan_e rfl ?_
              go_wp2_with fail
              refine MixPost.intro ⟨⟨_, trivial⟩, rfl⟩ ?_
              repeat (any_goals (first | (go_big_quiet_skip; refine wpQuiet_nil ?_) | (go_big_quiet_want; go_big_quiet_op; go_big_quiet_on; refine wpQuiet_nil ?_) | ((with_reducible apply q_split); exact rfl; intro q hq; cases q <;> (rw [hq]; (try first | replace hq := bnot_t hq | replace hq := bnot_f hq); (try first | replace hq := of_decide_eq_true hq | replace hq := of_decide_eq_false hq | replace hq := eq_of_beq hq); (try first | replace hq := Int.not_lt.1 hq | replace hq := Int.not_le.1 hq | replace hq := Nat.not_lt.1 hq | replace hq := Nat.not_le.1 hq); try (exfalso; omega))) | (refine plan_q rfl rfl ?_)))
              refine plan_e rfl ?_
              go_wp2_with fail
              refine MixPost.intro ⟨⟨_, trivial⟩, rfl⟩ ?_
              clear y_n g_0 g_1 g_f hg1 hf1 hV hV1 hV2
              refine plan_done ?_
              try simp only [List.drop_succ_cons, List.drop_zero]
              go_wp2_with fail
              refine NoPanic.normal ?_
              go_wp2_with fail
              go_roundw
              case rel => exact ⟨j, _, by go_num, by rw [swp_len]; exact hql, HO2, HB_V2, HSN⟩
              case measure => simp [intOf] <;> omega
          · have hcm : 0 ≤ cmpI (jat J y).prio (jat J x).prio := by unfold cmpI; rw [if_neg hc]; split <;> omega
            have HN := Lib.hid (HSTOP.out hc)
            generalize cmpI (jat J y).prio (jat J x).prio = c at *
            clear hc HSTEP HSTOP
            go_wp2_with fail
            have y_1 := cell_regrown g_0
            have y_2 := cell_regrown g_1
            clear g_0 g_1
            refine wp_region_plan (C := fun w' => ∃ p : Regrown, w' = grow (redrawn wr p.d) p.os) (.q 0 (.q 1 (.q 2 (.q 3 (.q 4 (.q 5 (.q 6 (.q 7 (.q 8 (.q 9 (.q 10 (.q 11 (.q 12 (.q 13 (.e 14 (.q 15 (.q 16 (.done)))))))))))))))))) 17 (by kernel_rfl) (by kernel_rfl) (grew_drew _) ?_
            repeat (any_goals (first | (go_big_quiet_skip; refine wpQuiet_nil ?_) | (go_big_quiet_want; go_big_quiet_op; go_big_quiet_on; refine wpQuiet_nil ?_) | ((with_reducible apply q_split); exact rfl; intro q hq; cases q <;> (rw [hq]; (try first | replace hq := bnot_t hq | replace hq := bnot_f hq); (try first | replace hq := of_decide_eq_true hq | replace hq := of_decide_eq_false hq | replace hq := eq_of_beq hq); (try first | replace hq := Int.not_lt.1 hq | replace hq := Int.not_le.1 hq | replace hq := Nat.not_lt.1 hq | replace hq := Nat.not_le.1 hq); try (exfalso; omega))) | (refine plan_q rfl rfl ?_)))
            refine plan_e rfl ?_
            go_wp2_with fail
            refine (HA.out _ (Below.refl _ _).drew).mono ?_
            rintro e w3 ⟨rfl, hb_w3⟩
            have HW_w3 : Below wr.heap.size wr w3 := below_undrew hb_w3
            clear hb_w3
            go_wp2_with fail
            refine MixPost.intro (grew_of_below HW_w3) ?_
            repeat (any_goals (first | (go_big_quiet_skip; refine wpQuiet_nil ?_) | (go_big_quiet_want; go_big_quiet_op; go_big_quiet_on; refine wpQuiet_nil ?_) | ((with_reducible apply q_split); exact rfl; intro q hq; cases q <;> (rw [hq]; (try first | replace hq := bnot_t hq | replace hq := bnot_f hq); (try first | replace hq := of_decide_eq_true hq | replace hq := of_decide_eq_false hq | replace hq := eq_of_beq hq); (try first | replace hq := Int.not_lt.1 hq | replace hq := Int.not_le.1 hq | replace hq := Nat.not_lt.1 hq | replace hq := Nat.not_le.1 hq); try (exfalso; omega))) | (refine plan_q rfl rfl ?_)))
            clear y_1 y_2
            all_goals refine plan_done ?_
            all_goals (try simp only [List.drop_succ_cons, List.drop_zero])
            all_goals (try go_wp2_with fail)
            all_goals refine NoPanic.normal ?_
            all_goals (try go_wp2_with fail)
            have HO3 := Lib.hid (HO.out.below HW_w3)
            have HB3 : Below S w w3 := HB_wr.trans (HW_w3.mono (by omega))
            go_roundw
            case rel => exact ⟨k + 1, q', by omega, .inl hlt, by go_num, hql, HO3.out, HB3, fun _ => HN.out, fun h => absurd h (by omega)⟩
            case measure => simp [intOf] <;> omega
    · have hki : (L : Int) ≤ (k : Int) := by omega
      have HAL := Lib.hid (show AskL J q' from by
        rcases Nat.eq_zero_or_pos L with h0 | h0
        · rw [HNQ.out h0]; exact HNIL.out (by rw [← HLEN.out]; exact h0)
        · have h1 := HOI.out h0
          have h2 := HLEN.out
          obtain rfl : k = L := by omega
          exact ⟨by rw [← h2, ← hql]; exact h1.perm, by rw [hql]; exact h1.srt⟩)
      clear HOI HNQ
      go_wp2_with fail
      go_end0
      exact ⟨rfl, q', HO.out, HAL.out, hql, HB_wr⟩
end Go.Proofs.Ytheioedggjbphaa
