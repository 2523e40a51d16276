/-
  Walks of the layer 'follow': the search in breadth.
-/
import Derived.Test.YtofilkphaelceaaFoK
set_option linter.unusedVariables false
namespace Go.Proofs.Ytofilkphaelceaa
open Go Go.RowKit Fo Sk Go.Sort Go.Shelf



set_option maxRecDepth 100000 in
set_option maxHeartbeats 8000000 in
theorem before1_wide (lid BN BL BD TN TL TD bm b m : Nat) (ao : Option Addr) (n cap : Nat) (l : List St) (D : List Int) (t : Int) (J : List Int → World → Prop) (W : World) (hJ : OwnAll W.heap.size J)
    (hY : ∀ pre x W1, I64 x → J pre W1 → pre.length < 200 → YieldAt Fence.wide (9 - 1) Try.prog lid (eX x) W1 fun e W' => e = .returned (.bool true) ∧ J (pre ++ [x]) W' ∧ KpBut bm W1 W')
    (hBN : Box W BN TN [.int .i64 t]) (hBL : Box W BL TL [.slice ao n cap]) (hBD : Box W BD TD [.map (some b)]) (hset : SetOf W b m D.contains) (hs : ∀ W', Below bm W W' → SlS W' ao n cap l) (hok : VOk l) (hf : (findS l t).isSome = true)
    (hne : BL ≠ bm ∧ BD ≠ bm ∧ b ≠ bm ∧ bm < W.heap.size) (h0 : J [] W) :
    CallsIn Fence.wide 9 Try.prog 58 #[.func (.yield lid) #[] #[], .pointer (some ⟨BN, 0, none⟩), .pointer (some ⟨BL, 0, none⟩), .pointer (some ⟨BD, 0, none⟩)] W fun e W' => (∃ v, e = .returned v) ∧
      ∃ xs, (xs.Nodup ∧ ∀ a, a ∈ xs ↔ Rch l D t a) ∧ J xs W' := by
  have hs0 := hs W (Below.refl _ _)
  obtain rfl := hs0.1.len
  have hcap := hs0.1.max
  have hle := hs0.1.le
  unfold maxLen at hcap
  have hl200 := hok.len
  obtain ⟨hne1, hne2, hne3, hbm⟩ := hne
  have HJ := Lib.hid hJ
  have HY := Lib.hid hY
  have HOK := Lib.hid hok
  have HF := Lib.hid hf
  have HS := Lib.hid hs
  have hmm := @run_makeMap Try.prog
  obtain ⟨i0, hi, hz0, hz1, hz2⟩ := info_parts info_int
  have HI := Lib.hid hi
  have HZ0 := Lib.hid hz0
  have HZ1 := Lib.hid hz1
  have HZ2 := Lib.hid hz2
  clear hi hz0 hz1 hz2
  obtain ⟨MS, hMS⟩ : ∃ N, W.heap.size = N := ⟨_, rfl⟩
  have HMS := Lib.hid hMS
  have hbmM : bm < MS := by omega
  have hLM : BL < MS := by have := hBL.lt; omega
  have hDM : BD < MS := by have := hBD.lt; omega
  have hbM : b < MS := by have := hset.lt; omega
  -- the set of what was seen; the queue
  obtain ⟨W1, hW1⟩ : ∃ W1, (W.alloc (.map #[] 0)).alloc (.cells #[.int .i64 t] 3) = W1 := ⟨_, rfl⟩
  have hB1 : Below W.heap.size W W1 := hW1 ▸ grew2 (Below.refl _ _)
  have hZ1 : W1.heap.size = MS + 2 := by rw [← hW1]; simp; omega
  have H_L := Lib.hid (hBL.below hB1)
  have H_D := Lib.hid (hBD.below hB1)
  have HSD := Lib.hid (hset.below hB1)
  have HSE : Hid (SetOf W1 MS 0 (fun _ => false)) := by
    rw [← hW1, ← hMS]; exact (SetOf.made W).alloc _
  have HQ : Hid (QOwn W1 (MS + 1) 3 (.slice (some ⟨MS + 1, 0, none⟩) 1 1) [t]) := by
    have h := QOwn.lit (W.alloc (.map #[] 0)) (MS + 1) 3 t (by simp; omega)
    rw [← hW1]
    rwa [show (W.alloc (.map #[] 0)).heap.size = MS + 1 by simp; omega] at h
  have HJ1 : Hid (J [] W1) := HJ.out _ _ _ none h0 (grown_of_below hB1) (fun r e => by cases e)
  have q_N := (hBN.alloc (.map #[] 0)).c1
  have HBW1 : Below bm W W1 := hB1.mono (by omega)
  clear hJ hY hok hf hs hs0 hBN hBL hBD hset h0 hB1
  refine callsIn_of_wp Try.func58 rfl trivial (wpIn_wide.2 ?_) rfl
  simp only [Try.ntmps58, List.size_toArray, List.length_cons, List.length_nil, Nat.reduceAdd, Nat.reduceSub, Array.replicate_succ, Array.replicate_zero, List.push_toArray, List.append_toArray, List.nil_append, List.cons_append]
  go_wp2_with fail
  clear q_N hW1 hmm hMS
  go_loopg [6] (1 + l.length) (fun gk nx wr => ∃ (seen q : List Int), Hid (J seen wr) ∧ Below bm W wr ∧ Hid (Box wr BL TL [.slice ao l.length cap]) ∧ Hid (Box wr BD TD [.map (some b)]) ∧ Hid (SetOf wr b m D.contains) ∧ Hid (SetOf wr MS seen.length seen.contains) ∧ Hid (QOwn wr (MS + 1) 3 nx q) ∧ Hid (BSt l D t seen q) ∧ q.length + l.length = gk + seen.length ∧ gk ≤ 201 ∧ MS + 1 ≤ wr.heap.size)
  case atStart => exact ⟨[], [t], HJ1.out, HBW1, H_L.out, H_D.out, HSD.out, (HSE.out.congr (fun x _ => by simp) : _), HQ.out, BSt.start l D t, by simp, by omega, by omega⟩
  case round =>
    clear HJ1 HBW1 H_L H_D HSD HSE HQ hZ1
    obtain ⟨seen, q, HJ0, HB_wr, H_L, H_D, HSD, HSE, HQ, HST, hcnt, hgk, hsz⟩ := hrel
    have hsl := HST.out.len HOK.out
    cases q with
    | nil =>
      have HE := Lib.hid HST.out.end_
      have HND := Lib.hid HST.out.nodup
      obtain ⟨qo, qc, rfl, _, _⟩ := HQ.out.shape
      go_wp2_with fail
      go_end0
      exact ⟨⟨_, rfl⟩, _, ⟨HND.out, HE.out⟩, HJ0.out⟩
    | cons x r =>
      have HSW := Lib.hid (HS.out wr HB_wr)
      obtain ⟨g, o, qc, rfl, hq1, hq2, hgl, e_0, hqt⟩ := HQ.out.head
      obtain ⟨s, hs⟩ := HST.out.num HOK.out HF.out x (by simp)
      have HFS := Lib.hid hs
      have HSO := Lib.hid (HSW.out.2 s (find_some hs).1)
      have HFC := Lib.hid (fun W' hW' => (show Calls Try.prog 46 #[.slice ao l.length cap, .int .i64 x] W' (Ret W' (.tuple #[eS s, .bool true])) from by have := find_any ao l.length cap l x W' hW' HOK.out; rw [hs] at this; exact this))
      clear hqt hs
      obtain ⟨s0, s1, s2, s3, s4⟩ := s
      obtain rfl : s4.length = s2 := HSO.out.1.len
      have hs4 : s4.length ≤ 9223372036854775807 := by have h1 := HSO.out.1.le; have h2 := HSO.out.1.max; unfold maxLen at h2; dsimp only at h1 h2; omega
      have q_L_0 := H_L.out.c1
      go_wp2_with fail
      have y_q_L_0 := cell_regrown q_L_0
      clear q_L_0
      have y_e_0 := cell_regrown e_0
      clear e_0
      refine wp_region_plan (C := fun w' => ∃ p : Regrown, w' = grow (redrawn wr p.d) p.os) (.q 0 (.q 1 (.q 2 (.q 3 (.two 4 (.q 5 (.q 6 (.q 7 (.e 8 (.e 9 (.q 10 (.done))))))) 8 (.e 4 (.q 5 (.q 6 (.q 7 (.e 9 (.q 10 (.done)))))))))))) 11 (by kernel_rfl) (by kernel_rfl) (grew_drew _) ?_
      repeat (any_goals (first | (go_big_quiet_skip; refine wpQuiet_nil ?_) | (go_big_quiet_want; go_big_quiet_op; go_big_quiet_on; refine wpQuiet_nil ?_) | ((with_reducible apply q_split); exact rfl; intro q hq; cases q <;> (rw [hq]; (try first | replace hq := bnot_t hq | replace hq := bnot_f hq); (try first | replace hq := of_decide_eq_true hq | replace hq := of_decide_eq_false hq | replace hq := eq_of_beq hq); (try first | replace hq := Int.not_lt.1 hq | replace hq := Int.not_le.1 hq | replace hq := Nat.not_lt.1 hq | replace hq := Nat.not_le.1 hq); try (exfalso; omega))) | (refine plan_q rfl rfl ?_)))
      refine plan_two rfl rfl ?_ ?_
      · go_wp2_with fail
        refine (HFC.out _ (HSW.out.below (Below.refl _ _).drew)).mono ?_
        rintro e w2 ⟨rfl, hb2⟩
        have HW2 : Below wr.heap.size wr w2 := below_undrew hb2
        clear hb2
        go_wp2_with fail
        refine MixPost.intro (grew_of_below HW2) ?_
        repeat (any_goals (first | (go_big_quiet_skip; refine wpQuiet_nil ?_) | (go_big_quiet_want; go_big_quiet_op; go_big_quiet_on; refine wpQuiet_nil ?_) | ((with_reducible apply q_split); exact rfl; intro q hq; cases q <;> (rw [hq]; (try first | replace hq := bnot_t hq | replace hq := bnot_f hq); (try first | replace hq := of_decide_eq_true hq | replace hq := of_decide_eq_false hq | replace hq := eq_of_beq hq); (try first | replace hq := Int.not_lt.1 hq | replace hq := Int.not_le.1 hq | replace hq := Nat.not_lt.1 hq | replace hq := Nat.not_le.1 hq); try (exfalso; omega))) | (refine plan_q rfl rfl ?_)))
        refine plan_e rfl ?_
        go_wp2_with fail
        refine MixPost.intro (grew_of_below (grew1 HW2)) ?_
        repeat (any_goals (first | (go_big_quiet_skip; refine wpQuiet_nil ?_) | (go_big_quiet_want; go_big_quiet_op; go_big_quiet_on; refine wpQuiet_nil ?_) | ((with_reducible apply q_split); exact rfl; intro q hq; cases q <;> (rw [hq]; (try first | replace hq := bnot_t hq | replace hq := bnot_f hq); (try first | replace hq := of_decide_eq_true hq | replace hq := of_decide_eq_false hq | replace hq := eq_of_beq hq); (try first | replace hq := Int.not_lt.1 hq | replace hq := Int.not_le.1 hq | replace hq := Nat.not_lt.1 hq | replace hq := Nat.not_le.1 hq); try (exfalso; omega))) | (refine plan_q rfl rfl ?_)))
        obtain ⟨WF, hWF, hBF, hZF, hbF⟩ := boxes1 w2 [.int .i64 s0, .slice s1 s4.length s3] 44
        have HWF : Below wr.heap.size wr WF := after0 HW2 hBF
        obtain ⟨NS, hNS⟩ : ∃ N, w2.heap.size = N := ⟨_, rfl⟩
        rw [hNS] at hbF
        have HNS : wr.heap.size ≤ NS := by rw [← hNS]; exact HW2.size
        have H_s := Lib.hid hbF
        clear hbF hBF hZF
        obtain ⟨q_s_0, q_s_1⟩ := H_s.out.c2
        refine plan_e rfl ?_
        go_wp2_with fail
        refine MixPost.intro (grew_of_below HWF) ?_
        repeat (any_goals (first | (go_big_quiet_skip; refine wpQuiet_nil ?_) | (go_big_quiet_want; go_big_quiet_op; go_big_quiet_on; refine wpQuiet_nil ?_) | ((with_reducible apply q_split); exact rfl; intro q hq; cases q <;> (rw [hq]; (try first | replace hq := bnot_t hq | replace hq := bnot_f hq); (try first | replace hq := of_decide_eq_true hq | replace hq := of_decide_eq_false hq | replace hq := eq_of_beq hq); (try first | replace hq := Int.not_lt.1 hq | replace hq := Int.not_le.1 hq | replace hq := Nat.not_lt.1 hq | replace hq := Nat.not_le.1 hq); try (exfalso; omega))) | (refine plan_q rfl rfl ?_)))
        clear y_q_L_0
        clear y_e_0
        try rw [hNS]
        clear hNS hWF
        have HSI := Lib.hid (HSO.out.below HWF)
        replace HB_wr := HB_wr.trans (HWF.mono (by omega))
        replace HJ0 : Hid (J seen WF) := HJ.out _ _ _ none HJ0.out (grown_of_below HWF) (fun r e => by cases e)
        replace H_L := Lib.hid (H_L.out.below HWF)
        replace H_D := Lib.hid (H_D.out.below HWF)
        replace HSD := Lib.hid (HSD.out.below HWF)
        replace HSE := Lib.hid (HSE.out.below HWF)
        replace HQ := Lib.hid (HQ.out.below HWF)
        replace hsz : MS + 1 ≤ WF.heap.size := Nat.le_trans hsz HWF.size
        clear HFC HSW HSO HWF HNS
        all_goals refine plan_done ?_
        all_goals (try simp only [List.drop_succ_cons, List.drop_zero])
        all_goals (try go_wp2_with fail)
        all_goals refine NoPanic.normal ?_
        all_goals (try go_wp2_with fail)
        clear q_s_0 q_s_1 H_s
        go_loopw [6, 30] (fun nx i wv => ∃ (seen' r' : List Int) (j : Nat), j ≤ s4.length ∧ i = .int .i64 j ∧ Hid (J seen' wv) ∧ Below bm W wv ∧ Hid (Box wv BL TL [.slice ao l.length cap]) ∧ Hid (Box wv BD TD [.map (some b)]) ∧ Hid (SetOf wv b m D.contains) ∧ Hid (SetOf wv MS seen'.length seen'.contains) ∧ Hid (QOwn wv (MS + 1) 3 nx (x :: r')) ∧ Hid (BSt l D t seen' (x :: r')) ∧ Hid (∀ (i : Nat) (h : i < s4.length), i < j → D.contains s4[i] = false → s4[i] ∈ seen') ∧ (x :: r').length + l.length = gk + seen'.length ∧ MS + 1 ≤ wv.heap.size) (fun _ i _ => s4.length - (intOf i).toNat)
        case atStart => exact ⟨seen, r, 0, Nat.zero_le _, rfl, HJ0.out, HB_wr, H_L.out, H_D.out, HSD.out, HSE.out, HQ.out, HST.out, fun i _ h => absurd h (Nat.not_lt_zero _), hcnt, hsz⟩
        case round =>
          clear HJ0 HB_wr H_L H_D HSD HSE HQ HST hcnt hsz hsl HSI hq1 hq2 hgl
          obtain ⟨seen', r', j, hj, rfl, HJ0, HB_wr, H_L, H_D, HSD, HSE, HQ, HST, HIN, hcnt, hsz⟩ := hrel
          have hsl := HST.out.len HOK.out
          have hrl : (x :: r').length = r'.length + 1 := rfl
          by_cases hlt : j < s4.length
          · have HSI := Lib.hid (show StOk wr ⟨s0, s1, s4.length, s3, s4⟩ from (HS.out wr HB_wr).2 _ (find_some HFS.out).1)
            obtain ⟨b', off, rfl, hb, hrow⟩ := HSI.out.1.get hlt
            have e_0 := (hrow j hlt).c1
            rw [Nat.mul_one] at e_0
            have h64 := HSI.out.2 s4[j] (List.getElem_mem hlt)
            have HIS := Lib.hid (show ∀ (S' : List Int), (∀ z ∈ seen', z ∈ S') → (D.contains s4[j] = false → s4[j] ∈ S') → ∀ (i : Nat) (h : i < s4.length), i < j + 1 → D.contains s4[i] = false → s4[i] ∈ S' from fun S' hsub h0 i h hi hd => by
              rcases Nat.lt_succ_iff_lt_or_eq.1 hi with h1 | rfl
              · exact hsub _ (HIN.out i h h1 hd)
              · exact h0 hd)
            have HPU := Lib.hid (@BSt.push l D t x s4[j] _ seen' r' HST.out HFS.out (List.getElem_mem hlt))
            have q_D := H_D.out.c1
            clear hrow HIN HSI
            generalize s4[j] = a at *
            cases hd : D.contains a
            case true =>
              have hlook := HSD.out.look h64 hd
              have HI2 := Lib.hid (HIS.out seen' (fun z hz => hz) (fun h => by rw [hd] at h; cases h))
              clear hd
              go_wp2_with fail
              go_roundw
              case rel => exact ⟨seen', r', j + 1, by omega, by go_num, HJ0.out, HB_wr, H_L.out, H_D.out, HSD.out, HSE.out, HQ.out, HST.out, HI2.out, hcnt, hsz⟩
              case measure => simp [intOf]; omega
            have hlook := HSD.out.look h64 hd
            have HDF := Lib.hid hd
            clear hd
            cases hs : seen'.contains a
            case true =>
              have hlook2 := HSE.out.look h64 hs
              have HI2 := Lib.hid (HIS.out seen' (fun z hz => hz) (fun _ => by rw [List.contains_eq_mem, decide_eq_true_eq] at hs; exact hs))
              clear hs
              go_wp2_with fail
              go_roundw
              case rel => exact ⟨seen', r', j + 1, by omega, by go_num, HJ0.out, HB_wr, H_L.out, H_D.out, HSD.out, HSE.out, HQ.out, HST.out, HI2.out, hcnt, hsz⟩
              case measure => simp [intOf]; omega
            have hlook2 := HSE.out.look h64 hs
            have HST2 := Lib.hid (HPU.out HDF.out hs)
            have HI2 := Lib.hid (HIS.out (seen' ++ [a]) (fun z hz => List.mem_append_left _ hz) (fun _ => by simp))
            have hsl2 := HST2.out.len HOK.out
            have hsl3 : seen'.length < 200 := by simp at hsl2; omega
            clear hs HPU HIS hsl2
            go_wp2_with (at_mapUpdate; refine wpList_put_set rfl _ _ _ rfl MS seen'.length _ rfl HSE.out (by unfold maxLen; omega) a rfl rfl h64 ?_)
            intro w1 hset1 hg1
            have hLt := H_L.out.lt
            have hDt := H_D.out.lt
            have hbt := HSD.out.lt
            have HNE := Lib.hid (show ∀ k, u6.ownBlock = some k → MS + 1 ≤ k from fun k e => (HQ.out.lt k e).1)
            have HSE1 := Lib.hid (hset1.congr (S' := (seen' ++ [a]).contains) (fun y _ => by rw [Bool.eq_iff_iff]; simp))
            replace HB_wr : Below bm W w1 := HB_wr.grown hg1 (by omega) (fun j hj => by cases hj; omega)
            replace H_L := Lib.hid (H_L.out.grown hg1 (by simp; omega))
            replace H_D := Lib.hid (H_D.out.grown hg1 (by simp; omega))
            replace HSD := Lib.hid (HSD.out.kept hg1 (by simp; omega))
            replace HQ := Lib.hid (que_past HQ.out hg1 (Nat.lt_succ_self MS))
            replace HJ0 : Hid (J seen' w1) := HJ.out _ _ _ (some MS) HJ0.out hg1 (fun r e => by cases e; rw [HMS.out]; exact Nat.le_refl _)
            replace hsz : MS + 1 ≤ w1.heap.size := Nat.le_trans hsz hg1.size
            have hb1 : Below w1.heap.size w1 (w1.alloc (.cells #[.int .i64 a] 3)) := grew1 (Below.refl _ _)
            have HQX := Lib.hid (HQ.out.below hb1)
            have HYC := Lib.hid (show (w1.alloc (.cells #[.int .i64 a] 3)).cell? ((⟨w1.heap.size, 0, none⟩ : Addr).add 0) = some (.int .i64 a) by rw [Addr.add_lit]; exact (Box.new w1 [.int .i64 a] 3).c1)
            have hszx : MS + 1 ≤ (w1.alloc (.cells #[.int .i64 a] 3)).heap.size := by simp; omega
            have hql : (x :: r').length ≤ 100000 := by omega
            clear hset1 hg1 HSE hlook hlook2 e_0 q_D hLt hDt hbt
            go_wp2_with (at_builtin; refine wpList_append_q rfl _ _ 23 rfl (MS + 1) 3 i0 _ 8 Try.underlying23 HI.out HZ0.out HZ1.out HZ2.out rfl _ (x :: r') rfl HQX.out ⟨w1.heap.size, 0, none⟩ 1 a rfl HYC.out (by unfold maxLen; omega) (by omega) hszx ?_)
            rintro v' w6 hq6 hg6
            have HQ6 := Lib.hid hq6
            have HJ6 : Hid (J seen' w6) := HJ.out _ _ _ _ (HJ.out _ _ _ none HJ0.out (grown_of_below hb1) (fun r e => by cases e)) hg6 (fun r e => by have := HNE.out r e; rw [HMS.out]; omega)
            have HB_w6 : Below bm W w6 := (HB_wr.trans (hb1.mono (by omega))).grown hg6 (by simp; omega) (fun j hj => by have := HNE.out j hj; omega)
            have H_L6 := Lib.hid ((H_L.out.alloc (.cells #[.int .i64 a] 3)).grown hg6 (fun e => by have := HNE.out _ e.symm; omega))
            have H_D6 := Lib.hid ((H_D.out.alloc (.cells #[.int .i64 a] 3)).grown hg6 (fun e => by have := HNE.out _ e.symm; omega))
            have HSD6 := Lib.hid ((HSD.out.alloc (.cells #[.int .i64 a] 3)).kept hg6 (fun e => by have := HNE.out _ e.symm; omega))
            have HSE6 := Lib.hid ((HSE1.out.alloc (.cells #[.int .i64 a] 3)).kept hg6 (fun e => by have := HNE.out _ e.symm; omega))
            have hs6 : MS + 1 ≤ w6.heap.size := Nat.le_trans hszx hg6.size
            obtain ⟨fn, tmps, assign, body, hy, hR⟩ := HY.out seen' a w6 h64 HJ6.out hsl3
            dsimp only [eX] at hy
            have HRB := Lib.hid hR
            clear hq6 hg6 hR HQX HYC hszx hb1 H_L H_D HSD HSE1 HQ HJ0 HB_wr hsz HNE HJ6
            go_upto_region 11 with (fail)
            refine (wpIn_wide (n := 9)).1 ?_
            gi_wp2
            refine HRB.out.mono ?_
            rintro e w7 ⟨rfl, hj7, hk7⟩
            have HJ7 := Lib.hid hj7
            have HB_w7 : Below bm W w7 := HB_w6.trans hk7.low
            have H_L7 := Lib.hid (hk7.box H_L6.out hne1)
            have H_D7 := Lib.hid (hk7.box H_D6.out hne2)
            have HSD7 := Lib.hid (hk7.set HSD6.out hne3)
            have HSE7 := Lib.hid (hk7.set HSE6.out (by omega))
            have HQ7 := Lib.hid (hk7.que HQ6.out (by omega))
            have hs7 : MS + 1 ≤ w7.heap.size := Nat.le_trans hs6 hk7.low.size
            clear hy hj7 hk7 HRB
            gi_wp2
            try refine NoPanic.normal ?_
            go_wp2
            go_roundw
            case rel => exact ⟨seen' ++ [a], r' ++ [a], j + 1, by omega, by go_num, HJ7.out, HB_w7, H_L7.out, H_D7.out, HSD7.out, (by rw [List.length_append]; exact HSE7.out : _), HQ7.out, HST2.out, HI2.out, by simp at hcnt ⊢; omega, hs7⟩
            case measure => simp [intOf]; omega
          · have HPOP := Lib.hid (HST.out.pop HFS.out (fun a ha hd => by
              obtain ⟨i, hi, rfl⟩ := List.getElem_of_mem ha
              exact HIN.out i hi (by have : i < s4.length := hi; omega) hd))
            obtain ⟨g, o, qc, rfl, hq1, hq2, hgl, _, hqt⟩ := HQ.out.head
            have hsla := sliceAt1 wr g o (r'.length + 1) qc (by omega) hq1
            obtain ⟨ad, had⟩ : ∃ ad : Addr, (if qc = 1 then (⟨g, o, none⟩ : Addr) else ⟨g, o + 1, none⟩) = ad := ⟨_, rfl⟩
            rw [had] at hsla hqt
            rw [Nat.add_sub_cancel] at hsla
            have HQT := Lib.hid hqt
            have hg1 : 1 ≤ gk := by omega
            clear had hqt HQ HST HIN
            go_wp2_with fail
            go_roundg (gk - 1)
            case measure => omega
            case rel => exact ⟨seen', r', HJ0.out, HB_wr, H_L.out, H_D.out, HSD.out, HSE.out, HQT.out, HPOP.out, by omega, by omega, hsz⟩
      · go_wp2_with fail
        refine MixPost.intro (grew_of_below ((grew1 (Below.refl _ _)).drew)) ?_
        repeat (any_goals (first | (go_big_quiet_skip; refine wpQuiet_nil ?_) | (go_big_quiet_want; go_big_quiet_op; go_big_quiet_on; refine wpQuiet_nil ?_) | ((with_reducible apply q_split); exact rfl; intro q hq; cases q <;> (rw [hq]; (try first | replace hq := bnot_t hq | replace hq := bnot_f hq); (try first | replace hq := of_decide_eq_true hq | replace hq := of_decide_eq_false hq | replace hq := eq_of_beq hq); (try first | replace hq := Int.not_lt.1 hq | replace hq := Int.not_le.1 hq | replace hq := Nat.not_lt.1 hq | replace hq := Nat.not_le.1 hq); try (exfalso; omega))) | (refine plan_q rfl rfl ?_)))
        refine plan_e rfl ?_
        go_wp2_with fail
        refine (HFC.out _ (HSW.out.below ((grew1 (Below.refl _ _)).drew))).mono ?_
        rintro e w2 ⟨rfl, hb2⟩
        have HW2 : Below wr.heap.size wr w2 := after0 ((grew1 (Below.refl _ _)).drew) hb2
        obtain ⟨NS, hNS⟩ : ∃ N, wr.heap.size = N := ⟨_, rfl⟩
        have hs2 := (Box.drew (Box.new wr [.int .i64 0, .slice none 0 0] 44)).below hb2
        rw [hNS] at hs2
        have HNS : wr.heap.size ≤ NS := by omega
        clear hb2
        go_wp2_with fail
        refine MixPost.intro (grew_of_below HW2) ?_
        repeat (any_goals (first | (go_big_quiet_skip; refine wpQuiet_nil ?_) | (go_big_quiet_want; go_big_quiet_op; go_big_quiet_on; refine wpQuiet_nil ?_) | ((with_reducible apply q_split); exact rfl; intro q hq; cases q <;> (rw [hq]; (try first | replace hq := bnot_t hq | replace hq := bnot_f hq); (try first | replace hq := of_decide_eq_true hq | replace hq := of_decide_eq_false hq | replace hq := eq_of_beq hq); (try first | replace hq := Int.not_lt.1 hq | replace hq := Int.not_le.1 hq | replace hq := Nat.not_lt.1 hq | replace hq := Nat.not_le.1 hq); try (exfalso; omega))) | (refine plan_q rfl rfl ?_)))
        obtain ⟨WF, hWF, hBF, hsF, hoF⟩ := store2 w2 NS (.int .i64 s0) (.slice s1 s4.length s3)
        have HWF : Below wr.heap.size wr WF := HW2.trans (hBF _ (by omega))
        have f3 := hs2.frozen
        obtain ⟨q_3_0, q_3_1⟩ := hs2.c2
        have H_s := Lib.hid (hsF _ _ _ hs2)
        clear hBF hsF hoF hs2
        obtain ⟨q_s_0, q_s_1⟩ := H_s.out.c2
        try rw [hNS]
        refine plan_e rfl ?_
        go_wp2_with fail
        refine MixPost.intro (grew_of_below HWF) ?_
        repeat (any_goals (first | (go_big_quiet_skip; refine wpQuiet_nil ?_) | (go_big_quiet_want; go_big_quiet_op; go_big_quiet_on; refine wpQuiet_nil ?_) | ((with_reducible apply q_split); exact rfl; intro q hq; cases q <;> (rw [hq]; (try first | replace hq := bnot_t hq | replace hq := bnot_f hq); (try first | replace hq := of_decide_eq_true hq | replace hq := of_decide_eq_false hq | replace hq := eq_of_beq hq); (try first | replace hq := Int.not_lt.1 hq | replace hq := Int.not_le.1 hq | replace hq := Nat.not_lt.1 hq | replace hq := Nat.not_le.1 hq); try (exfalso; omega))) | (refine plan_q rfl rfl ?_)))
        clear y_q_L_0
        clear y_e_0
        try rw [hNS]
        clear hNS hWF f3 q_3_0 q_3_1
        have HSI := Lib.hid (HSO.out.below HWF)
        replace HB_wr := HB_wr.trans (HWF.mono (by omega))
        replace HJ0 : Hid (J seen WF) := HJ.out _ _ _ none HJ0.out (grown_of_below HWF) (fun r e => by cases e)
        replace H_L := Lib.hid (H_L.out.below HWF)
        replace H_D := Lib.hid (H_D.out.below HWF)
        replace HSD := Lib.hid (HSD.out.below HWF)
        replace HSE := Lib.hid (HSE.out.below HWF)
        replace HQ := Lib.hid (HQ.out.below HWF)
        replace hsz : MS + 1 ≤ WF.heap.size := Nat.le_trans hsz HWF.size
        clear HFC HSW HSO HWF HNS
        all_goals refine plan_done ?_
        all_goals (try simp only [List.drop_succ_cons, List.drop_zero])
        all_goals (try go_wp2_with fail)
        all_goals refine NoPanic.normal ?_
        all_goals (try go_wp2_with fail)
        clear q_s_0 q_s_1 H_s
        go_loopw [6, 30] (fun nx i wv => ∃ (seen' r' : List Int) (j : Nat), j ≤ s4.length ∧ i = .int .i64 j ∧ Hid (J seen' wv) ∧ Below bm W wv ∧ Hid (Box wv BL TL [.slice ao l.length cap]) ∧ Hid (Box wv BD TD [.map (some b)]) ∧ Hid (SetOf wv b m D.contains) ∧ Hid (SetOf wv MS seen'.length seen'.contains) ∧ Hid (QOwn wv (MS + 1) 3 nx (x :: r')) ∧ Hid (BSt l D t seen' (x :: r')) ∧ Hid (∀ (i : Nat) (h : i < s4.length), i < j → D.contains s4[i] = false → s4[i] ∈ seen') ∧ (x :: r').length + l.length = gk + seen'.length ∧ MS + 1 ≤ wv.heap.size) (fun _ i _ => s4.length - (intOf i).toNat)
        case atStart => exact ⟨seen, r, 0, Nat.zero_le _, rfl, HJ0.out, HB_wr, H_L.out, H_D.out, HSD.out, HSE.out, HQ.out, HST.out, fun i _ h => absurd h (Nat.not_lt_zero _), hcnt, hsz⟩
        case round =>
          clear HJ0 HB_wr H_L H_D HSD HSE HQ HST hcnt hsz hsl HSI hq1 hq2 hgl
          obtain ⟨seen', r', j, hj, rfl, HJ0, HB_wr, H_L, H_D, HSD, HSE, HQ, HST, HIN, hcnt, hsz⟩ := hrel
          have hsl := HST.out.len HOK.out
          have hrl : (x :: r').length = r'.length + 1 := rfl
          by_cases hlt : j < s4.length
          · have HSI := Lib.hid (show StOk wr ⟨s0, s1, s4.length, s3, s4⟩ from (HS.out wr HB_wr).2 _ (find_some HFS.out).1)
            obtain ⟨b', off, rfl, hb, hrow⟩ := HSI.out.1.get hlt
            have e_0 := (hrow j hlt).c1
            rw [Nat.mul_one] at e_0
            have h64 := HSI.out.2 s4[j] (List.getElem_mem hlt)
            have HIS := Lib.hid (show ∀ (S' : List Int), (∀ z ∈ seen', z ∈ S') → (D.contains s4[j] = false → s4[j] ∈ S') → ∀ (i : Nat) (h : i < s4.length), i < j + 1 → D.contains s4[i] = false → s4[i] ∈ S' from fun S' hsub h0 i h hi hd => by
              rcases Nat.lt_succ_iff_lt_or_eq.1 hi with h1 | rfl
              · exact hsub _ (HIN.out i h h1 hd)
              · exact h0 hd)
            have HPU := Lib.hid (@BSt.push l D t x s4[j] _ seen' r' HST.out HFS.out (List.getElem_mem hlt))
            have q_D := H_D.out.c1
            clear hrow HIN HSI
            generalize s4[j] = a at *
            cases hd : D.contains a
            case true =>
              have hlook := HSD.out.look h64 hd
              have HI2 := Lib.hid (HIS.out seen' (fun z hz => hz) (fun h => by rw [hd] at h; cases h))
              clear hd
              go_wp2_with fail
              go_roundw
              case rel => exact ⟨seen', r', j + 1, by omega, by go_num, HJ0.out, HB_wr, H_L.out, H_D.out, HSD.out, HSE.out, HQ.out, HST.out, HI2.out, hcnt, hsz⟩
              case measure => simp [intOf]; omega
            have hlook := HSD.out.look h64 hd
            have HDF := Lib.hid hd
            clear hd
            cases hs : seen'.contains a
            case true =>
              have hlook2 := HSE.out.look h64 hs
              have HI2 := Lib.hid (HIS.out seen' (fun z hz => hz) (fun _ => by rw [List.contains_eq_mem, decide_eq_true_eq] at hs; exact hs))
              clear hs
              go_wp2_with fail
              go_roundw
              case rel => exact ⟨seen', r', j + 1, by omega, by go_num, HJ0.out, HB_wr, H_L.out, H_D.out, HSD.out, HSE.out, HQ.out, HST.out, HI2.out, hcnt, hsz⟩
              case measure => simp [intOf]; omega
            have hlook2 := HSE.out.look h64 hs
            have HST2 := Lib.hid (HPU.out HDF.out hs)
            have HI2 := Lib.hid (HIS.out (seen' ++ [a]) (fun z hz => List.mem_append_left _ hz) (fun _ => by simp))
            have hsl2 := HST2.out.len HOK.out
            have hsl3 : seen'.length < 200 := by simp at hsl2; omega
            clear hs HPU HIS hsl2
            go_wp2_with (at_mapUpdate; refine wpList_put_set rfl _ _ _ rfl MS seen'.length _ rfl HSE.out (by unfold maxLen; omega) a rfl rfl h64 ?_)
            intro w1 hset1 hg1
            have hLt := H_L.out.lt
            have hDt := H_D.out.lt
            have hbt := HSD.out.lt
            have HNE := Lib.hid (show ∀ k, u6.ownBlock = some k → MS + 1 ≤ k from fun k e => (HQ.out.lt k e).1)
            have HSE1 := Lib.hid (hset1.congr (S' := (seen' ++ [a]).contains) (fun y _ => by rw [Bool.eq_iff_iff]; simp))
            replace HB_wr : Below bm W w1 := HB_wr.grown hg1 (by omega) (fun j hj => by cases hj; omega)
            replace H_L := Lib.hid (H_L.out.grown hg1 (by simp; omega))
            replace H_D := Lib.hid (H_D.out.grown hg1 (by simp; omega))
            replace HSD := Lib.hid (HSD.out.kept hg1 (by simp; omega))
            replace HQ := Lib.hid (que_past HQ.out hg1 (Nat.lt_succ_self MS))
            replace HJ0 : Hid (J seen' w1) := HJ.out _ _ _ (some MS) HJ0.out hg1 (fun r e => by cases e; rw [HMS.out]; exact Nat.le_refl _)
            replace hsz : MS + 1 ≤ w1.heap.size := Nat.le_trans hsz hg1.size
            have hb1 : Below w1.heap.size w1 (w1.alloc (.cells #[.int .i64 a] 3)) := grew1 (Below.refl _ _)
            have HQX := Lib.hid (HQ.out.below hb1)
            have HYC := Lib.hid (show (w1.alloc (.cells #[.int .i64 a] 3)).cell? ((⟨w1.heap.size, 0, none⟩ : Addr).add 0) = some (.int .i64 a) by rw [Addr.add_lit]; exact (Box.new w1 [.int .i64 a] 3).c1)
            have hszx : MS + 1 ≤ (w1.alloc (.cells #[.int .i64 a] 3)).heap.size := by simp; omega
            have hql : (x :: r').length ≤ 100000 := by omega
            clear hset1 hg1 HSE hlook hlook2 e_0 q_D hLt hDt hbt
            go_wp2_with (at_builtin; refine wpList_append_q rfl _ _ 23 rfl (MS + 1) 3 i0 _ 8 Try.underlying23 HI.out HZ0.out HZ1.out HZ2.out rfl _ (x :: r') rfl HQX.out ⟨w1.heap.size, 0, none⟩ 1 a rfl HYC.out (by unfold maxLen; omega) (by omega) hszx ?_)
            rintro v' w6 hq6 hg6
            have HQ6 := Lib.hid hq6
            have HJ6 : Hid (J seen' w6) := HJ.out _ _ _ _ (HJ.out _ _ _ none HJ0.out (grown_of_below hb1) (fun r e => by cases e)) hg6 (fun r e => by have := HNE.out r e; rw [HMS.out]; omega)
            have HB_w6 : Below bm W w6 := (HB_wr.trans (hb1.mono (by omega))).grown hg6 (by simp; omega) (fun j hj => by have := HNE.out j hj; omega)
            have H_L6 := Lib.hid ((H_L.out.alloc (.cells #[.int .i64 a] 3)).grown hg6 (fun e => by have := HNE.out _ e.symm; omega))
            have H_D6 := Lib.hid ((H_D.out.alloc (.cells #[.int .i64 a] 3)).grown hg6 (fun e => by have := HNE.out _ e.symm; omega))
            have HSD6 := Lib.hid ((HSD.out.alloc (.cells #[.int .i64 a] 3)).kept hg6 (fun e => by have := HNE.out _ e.symm; omega))
            have HSE6 := Lib.hid ((HSE1.out.alloc (.cells #[.int .i64 a] 3)).kept hg6 (fun e => by have := HNE.out _ e.symm; omega))
            have hs6 : MS + 1 ≤ w6.heap.size := Nat.le_trans hszx hg6.size
            obtain ⟨fn, tmps, assign, body, hy, hR⟩ := HY.out seen' a w6 h64 HJ6.out hsl3
            dsimp only [eX] at hy
            have HRB := Lib.hid hR
            clear hq6 hg6 hR HQX HYC hszx hb1 H_L H_D HSD HSE1 HQ HJ0 HB_wr hsz HNE HJ6
            go_upto_region 11 with (fail)
            refine (wpIn_wide (n := 9)).1 ?_
            gi_wp2
            refine HRB.out.mono ?_
            rintro e w7 ⟨rfl, hj7, hk7⟩
            have HJ7 := Lib.hid hj7
            have HB_w7 : Below bm W w7 := HB_w6.trans hk7.low
            have H_L7 := Lib.hid (hk7.box H_L6.out hne1)
            have H_D7 := Lib.hid (hk7.box H_D6.out hne2)
            have HSD7 := Lib.hid (hk7.set HSD6.out hne3)
            have HSE7 := Lib.hid (hk7.set HSE6.out (by omega))
            have HQ7 := Lib.hid (hk7.que HQ6.out (by omega))
            have hs7 : MS + 1 ≤ w7.heap.size := Nat.le_trans hs6 hk7.low.size
            clear hy hj7 hk7 HRB
            gi_wp2
            try refine NoPanic.normal ?_
            go_wp2
            go_roundw
            case rel => exact ⟨seen' ++ [a], r' ++ [a], j + 1, by omega, by go_num, HJ7.out, HB_w7, H_L7.out, H_D7.out, HSD7.out, (by rw [List.length_append]; exact HSE7.out : _), HQ7.out, HST2.out, HI2.out, by simp at hcnt ⊢; omega, hs7⟩
            case measure => simp [intOf]; omega
          · have HPOP := Lib.hid (HST.out.pop HFS.out (fun a ha hd => by
              obtain ⟨i, hi, rfl⟩ := List.getElem_of_mem ha
              exact HIN.out i hi (by have : i < s4.length := hi; omega) hd))
            obtain ⟨g, o, qc, rfl, hq1, hq2, hgl, _, hqt⟩ := HQ.out.head
            have hsla := sliceAt1 wr g o (r'.length + 1) qc (by omega) hq1
            obtain ⟨ad, had⟩ : ∃ ad : Addr, (if qc = 1 then (⟨g, o, none⟩ : Addr) else ⟨g, o + 1, none⟩) = ad := ⟨_, rfl⟩
            rw [had] at hsla hqt
            rw [Nat.add_sub_cancel] at hsla
            have HQT := Lib.hid hqt
            have hg1 : 1 ≤ gk := by omega
            clear had hqt HQ HST HIN
            go_wp2_with fail
            go_roundg (gk - 1)
            case measure => omega
            case rel => exact ⟨seen', r', HJ0.out, HB_wr, H_L.out, H_D.out, HSD.out, HSE.out, HQT.out, HPOP.out, by omega, by omega, hsz⟩
end Go.Proofs.Ytofilkphaelceaa
