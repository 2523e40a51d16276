/-
  The law FollowOrder.
-/
import Derived.Test.YtofilkphaelceaaFoTo
set_option linter.unusedVariables false
namespace Go.Proofs.Ytofilkphaelceaa
open Go Go.RowKit Fo Sk Go.Sort
theorem order_cases (l : List St) (d : List Int) : (orderR l d = ([], 1) ∧ (valid l = false ∨ (valid l = true ∧ isDone d = false))) ∨ (orderR l d = (orderF l d, 0) ∧ valid l = true ∧ isDone d = true) := by
  cases hv : valid l with
  | false => exact .inl ⟨orderR_bad (.inl hv), .inl rfl⟩
  | true =>
    cases hd : isDone d with
    | false => exact .inl ⟨orderR_bad (.inr hd), .inr ⟨rfl, rfl⟩⟩
    | true => exact .inr ⟨orderR_ok hv hd, rfl, rfl⟩
/-- what is ready behind the done numbers and the first ones of the order -/
theorem order_next {l : List St} {d : List Int} (hv : valid l = true) (hd : isDone d = true) (hll : l.length ≤ 30) (hdl : d.length ≤ 30) {i : Nat} (h : i < (orderF l d).length) :
    ∃ r, readyR l (srt (d ++ (orderF l d).take i)) = ((orderF l d)[i] :: r, 0) ∧ ((orderF l d).take i).contains (orderF l d)[i] = false ∧ d.contains (orderF l d)[i] = false := by
  have hok := vok hv
  obtain ⟨d1, d2, d3⟩ := isDone_iff.1 hd
  have hinc := order_inc (d := d) hok
  have hnd : (orderF l d).Nodup := hinc.imp (fun h => by omega)
  have hlen : (orderF l d).length ≤ 30 := by
    unfold orderF
    rw [List.length_map]
    exact Nat.le_trans (List.length_filter_le _ _) hll
  have hmem : (orderF l d)[i] ∈ orderF l d := List.getElem_mem h
  have hdn : isDone (srt (d ++ (orderF l d).take i)) = true := by
    refine done_srt hok (List.nodup_append.2 ⟨d2.imp (fun h => by omega), hnd.sublist (List.take_sublist _ _), fun a ha b hb => ?_⟩) (fun x hx => ?_) (by simp; omega)
    · have := (order_mem.1 (List.mem_of_mem_take hb)).2
      exact fun e => this (e ▸ ha)
    · rcases List.mem_append.1 hx with hx | hx
      · exact d3 x hx
      · obtain ⟨⟨s, hs, rfl⟩, _⟩ := order_mem.1 (List.mem_of_mem_take hx)
        exact hok.num s hs
  obtain ⟨r, hr⟩ := order_ready hok (D := srt (d ++ (orderF l d).take i)) h (fun x => by rw [srt_mem, List.mem_append])
  refine ⟨r, by rw [readyR_ok hv hdn, hr], ?_, ?_⟩
  · rw [List.contains_eq_mem, decide_eq_false_iff_not]
    intro hm
    obtain ⟨j, hj, he⟩ := List.getElem_of_mem hm
    rw [List.length_take] at hj
    rw [List.getElem_take] at he
    have := List.pairwise_iff_getElem.1 hinc j i (by omega) h (by omega)
    omega
  · rw [List.contains_eq_mem, decide_eq_false_iff_not]
    exact (order_mem.1 hmem).2

set_option maxRecDepth 100000 in
set_option maxHeartbeats 8000000 in
theorem order_walk (hso : SortOk) (ao : Option Addr) (n cap : Nat) (l : List St) (bo : Option Addr) (m capb : Nat) (d : List Int) (w : World) (hs : SlS w ao n cap l) (hd : Sl w 1 cI bo m capb d) :
    Calls Try.prog 5 #[.slice ao n cap, .slice bo m capb] w (Ret w (.bool true)) := by
  obtain rfl := hs.1.len
  have hle := hs.1.le
  have hcap := hs.1.max
  unfold maxLen at hcap
  have HS := Lib.hid hs
  have HSO := Lib.hid hso
  have HB_w : Below w.heap.size w w := Below.refl _ _
  obtain rfl := hd.len
  have hle2 := hd.le
  have hcap2 := hd.max
  unfold maxLen at hcap2
  have HD := Lib.hid hd
  have HC := Lib.hid (order_cases l d)
  obtain ⟨i0, hi, hz0, hz1, hz2⟩ := info_parts info_int
  have HI := Lib.hid hi
  have HZ0 := Lib.hid hz0
  have HZ1 := Lib.hid hz1
  have HZ2 := Lib.hid hz2
  clear hs hd hso hi hz0 hz1 hz2
  go_enter Try.func5, Try.ntmps5
  go_wp2_with fail
  refine (head_any HSO.out _).mono ?_
  rintro e wa ⟨rfl, hb_wa⟩
  have HB_wa : Below w.heap.size w wa := by first | exact after0 HB_w hb_wa | exact after1 HB_w hb_wa | exact after2 HB_w hb_wa | exact after3 HB_w hb_wa | exact after4 HB_w hb_wa | exact after5 HB_w hb_wa
  go_wp2_with fail
  refine (rfew_any _ _ _ l _ (HS.out.below HB_wa)).mono ?_
  rintro e wb ⟨rfl, hb_wb⟩
  have HB_wb : Below w.heap.size w wb := by first | exact after0 HB_wa hb_wb | exact after1 HB_wa hb_wb | exact after2 HB_wa hb_wb | exact after3 HB_wa hb_wb | exact after4 HB_wa hb_wb | exact after5 HB_wa hb_wb
  cases h1 : fewB l
  · clear h1
    go_wp2_with fail
    all_goals try (exfalso; omega)
    go_ret
    exact ⟨rfl, HB_wb⟩
  have hl30 := (fewB_iff.1 h1).1
  clear h1
  by_cases h30 : 30 < (d.length : Int)
  ·
    go_wp2_with fail
    all_goals try (exfalso; omega)
    go_ret
    exact ⟨rfl, HB_wb⟩
  have h30' : (d.length : Int) ≤ 30 := by omega
  clear h30
  have HX := Lib.hid (Order_any _ _ _ l _ _ _ d _ (HS.out.below HB_wb) (HD.out.below HB_wb))
  rcases HC.out with ⟨e1, e2⟩ | ⟨e1, hv, hdn⟩
  · rw [e1] at HX
    clear HC e1
    go_wp2_with fail
    all_goals try (exfalso; omega)
    refine (HX.out).mono ?_
    rintro e wc ⟨so, sn, sc, rfl, hsw, hb_wc⟩
    have HB_wc : Below w.heap.size w wc := by first | exact after0 HB_wb hb_wc | exact after1 HB_wb hb_wc | exact after2 HB_wb hb_wc | exact after3 HB_wb hb_wc | exact after4 HB_wb hb_wc | exact after5 HB_wb hb_wc
    have HP := Lib.hid (Valid_any _ _ _ l _ (HS.out.below HB_wc))
    clear hsw HX
    go_wp2_with fail
    all_goals try (exfalso; omega)
    rcases e2 with e2 | ⟨e2, e3⟩
    · rw [e2] at HP
      clear e2
      refine (HP.out).mono ?_
      rintro e wd ⟨rfl, hb_wd⟩
      have HB_wd : Below w.heap.size w wd := by first | exact after0 HB_wc hb_wd | exact after1 HB_wc hb_wd | exact after2 HB_wc hb_wd | exact after3 HB_wc hb_wd | exact after4 HB_wc hb_wd | exact after5 HB_wc hb_wd
      go_wp2_with fail
      all_goals try (exfalso; omega)
      go_ret
      exact ⟨rfl, HB_wd⟩
    · rw [e2] at HP
      clear e2
      refine (HP.out).mono ?_
      rintro e wd ⟨rfl, hb_wd⟩
      have HB_wd : Below w.heap.size w wd := by first | exact after0 HB_wc hb_wd | exact after1 HB_wc hb_wd | exact after2 HB_wc hb_wd | exact after3 HB_wc hb_wd | exact after4 HB_wc hb_wd | exact after5 HB_wc hb_wd
      have HQ := Lib.hid (rdone_any _ _ _ d _ (HD.out.below HB_wd))
      rw [e3] at HQ
      clear e3
      go_wp2_with fail
      all_goals try (exfalso; omega)
      refine (HQ.out).mono ?_
      rintro e we ⟨rfl, hb_we⟩
      have HB_we : Below w.heap.size w we := by first | exact after0 HB_wd hb_we | exact after1 HB_wd hb_we | exact after2 HB_wd hb_we | exact after3 HB_wd hb_we | exact after4 HB_wd hb_we | exact after5 HB_wd hb_we
      go_wp2_with fail
      all_goals try (exfalso; omega)
      go_ret
      exact ⟨rfl, HB_we⟩
  rw [e1] at HX
  have HV := Lib.hid (vok hv)
  have HNX := Lib.hid (fun i => order_next (i := i) hv hdn hl30 (by omega))
  have HPR := Lib.hid (permR_of hv (o := orderF l []) (Nat.le_trans (by unfold orderF; rw [List.length_map]; exact List.length_filter_le _ _) (by omega)) (order_perm HV.out))
  have HLE := Lib.hid (show (orderF l d).length ≤ 30 from by
    unfold orderF
    rw [List.length_map]
    exact Nat.le_trans (List.length_filter_le _ _) hl30)
  clear HC e1 hv hdn
  go_wp2_with fail
  all_goals try (exfalso; omega)
  refine (HX.out).mono ?_
  rintro e wc ⟨so, sn, sc, rfl, hsw, hb_wc⟩
  have HB_wc : Below w.heap.size w wc := by first | exact after0 HB_wb hb_wc | exact after1 HB_wb hb_wc | exact after2 HB_wb hb_wc | exact after3 HB_wb hb_wc | exact after4 HB_wb hb_wc | exact after5 HB_wb hb_wc
  obtain rfl := hsw.len
  have HSW := Lib.hid hsw
  have hswm := hsw.max
  have hswl := hsw.le
  unfold maxLen at hswm
  have HOH := Lib.hid (fun x => @order_has l d x)
  have HOE := Lib.hid (show d = [] → orderF l d = orderF l [] from fun h => by rw [h])
  have HSI := Lib.hid (srt_of ((order_inc (d := d) HV.out).imp (fun h => Int.le_of_lt h)))
  have hN30 := HLE.out
  clear hsw HX HLE
  generalize orderF l d = N at *
  go_wp2_with fail
  all_goals try (exfalso; omega)
  go_loopw [5, 51] (fun up i wr => ∃ (k : Nat), k ≤ N.length ∧ up = .bool true ∧ i = .int .i64 k ∧ Hid (Below wc.heap.size wc wr)) (fun _ i _ => N.length - (intOf i).toNat)
  case atStart => exact ⟨0, Nat.zero_le _, rfl, rfl, Below.refl _ _⟩
  case round =>
    obtain ⟨k, hk, rfl, rfl, HB5⟩ := hrel
    have HB_wr := after0 HB_wc HB5.out
    by_cases hlk : k < N.length
    · obtain ⟨r, e1, e2, e3⟩ := HNX.out k hlk
      have HE1 := Lib.hid e1
      have HE2 := Lib.hid e2
      have HE3 := Lib.hid e3
      have HSR := Lib.hid (HSW.out.below HB5.out)
      have hst := slice_head (P := Try.prog) (t := 23) (by kernel_rfl) (fun W => by kernel_rfl) HSR.out k (by omega)
      have HSH := Lib.hid (HSR.out.take (n := k) (by omega))
      obtain ⟨b, off, rfl, hb, hrow⟩ := HSR.out.get hlk
      have e_0 := (hrow k hlk).c1
      rw [Nat.mul_one] at e_0
      clear hrow e1 e2 e3
      generalize N[k] = x at *
      have hTl : (N.take k).length = k := by rw [List.length_take]; omega
      generalize N.take k = T at *
      go_wp2_with fail
      have y_n : Nonempty (Wc (fun W => True)) := ⟨⟨wr, trivial⟩⟩
      refine wp_region_plan (C := fun w' => ∃ p : Wc (fun W => True), w' = p.w) (.q 0 (.q 2 (.q 4 (.q 5 (.q 6 (.e 1 (.e 3 (.e 7 (.e 8 (.e 9 (.q 10 (.q 11 (.q 12 (.q 13 (.q 14 (.done)))))))))))))))) 15 (by kernel_rfl) (by kernel_rfl) ⟨⟨_, ?_⟩, rfl⟩ ?_
      · trivial
      repeat (any_goals (first | (go_big_quiet_skip; refine wpQuiet_nil ?_) | (go_big_quiet_want; go_big_quiet_op; go_big_quiet_on; refine wpQuiet_nil ?_) | ((with_reducible apply q_split); exact rfl; intro q hq; cases q <;> (rw [hq]; (try first | replace hq := bnot_t hq | replace hq := bnot_f hq); (try first | replace hq := of_decide_eq_true hq | replace hq := of_decide_eq_false hq | replace hq := eq_of_beq hq); (try first | replace hq := Int.not_lt.1 hq | replace hq := Int.not_le.1 hq | replace hq := Nat.not_lt.1 hq | replace hq := Nat.not_le.1 hq); try (exfalso; omega))) | (refine plan_q rfl rfl ?_)))
      refine plan_e rfl ?_
      go_wp2_with fail
      refine MixPost.intro ⟨⟨_, trivial⟩, rfl⟩ ?_
      repeat (any_goals (first | (go_big_quiet_skip; refine wpQuiet_nil ?_) | (go_big_quiet_want; go_big_quiet_op; go_big_quiet_on; refine wpQuiet_nil ?_) | ((with_reducible apply q_split); exact rfl; intro q hq; cases q <;> (rw [hq]; (try first | replace hq := bnot_t hq | replace hq := bnot_f hq); (try first | replace hq := of_decide_eq_true hq | replace hq := of_decide_eq_false hq | replace hq := eq_of_beq hq); (try first | replace hq := Int.not_lt.1 hq | replace hq := Int.not_le.1 hq | replace hq := Nat.not_lt.1 hq | replace hq := Nat.not_le.1 hq); try (exfalso; omega))) | (refine plan_q rfl rfl ?_)))
      obtain ⟨W0, hW0⟩ : ∃ X, (wr.alloc (.cells #[] 3)).drew = X := ⟨_, rfl⟩
      rw [hW0]
      have hb0 : Below wr.heap.size wr W0 := hW0 ▸ (grew1 (Below.refl _ _)).drew
      have HO0 := Lib.hid (show OwnL W0 wr.heap.size 3 1 cI (.slice (some ⟨wr.heap.size, 0, none⟩) 0 0) [] from hW0 ▸ OwnL.drew (OwnL.made (Nat.le_refl _)))
      have hz0 : wr.heap.size ≤ W0.heap.size := hb0.size
      clear hW0
      refine plan_e rfl ?_
      go_wp2_with (at_builtin; refine wpList_append_sl rfl _ _ 23 rfl wr.heap.size 3 i0 _ 1 8 Try.underlying23 HI.out HZ0.out HZ1.out HZ2.out rfl (by decide) cI_len cI_one _ [] rfl HO0.out bo d.length capb d rfl (HD.out.below (after0 HB_wr hb0)) (by unfold maxLen; simp; omega) (by simp; omega) hz0 ?_)
      rintro v1 w1 ho hg hgr
      have HO1 := Lib.hid (show OwnL w1 wr.heap.size 3 1 cI v1 d from ho)
      have hb1 : Below wr.heap.size wr w1 := hb0.trans (hg _ (Nat.le_refl _))
      have hz1 : wr.heap.size ≤ w1.heap.size := hb1.size
      clear ho hg hgr HO0
      refine MixPost.intro ⟨⟨_, trivial⟩, rfl⟩ ?_
      repeat (any_goals (first | (go_big_quiet_skip; refine wpQuiet_nil ?_) | (go_big_quiet_want; go_big_quiet_op; go_big_quiet_on; refine wpQuiet_nil ?_) | ((with_reducible apply q_split); exact rfl; intro q hq; cases q <;> (rw [hq]; (try first | replace hq := bnot_t hq | replace hq := bnot_f hq); (try first | replace hq := of_decide_eq_true hq | replace hq := of_decide_eq_false hq | replace hq := eq_of_beq hq); (try first | replace hq := Int.not_lt.1 hq | replace hq := Int.not_le.1 hq | replace hq := Nat.not_lt.1 hq | replace hq := Nat.not_le.1 hq); try (exfalso; omega))) | (refine plan_q rfl rfl ?_)))
      refine plan_e rfl ?_
      go_wp2_with (at_builtin; refine wpList_append_sl rfl _ _ 23 rfl wr.heap.size 3 i0 _ 1 8 Try.underlying23 HI.out HZ0.out HZ1.out HZ2.out rfl (by decide) cI_len cI_one _ d rfl HO1.out (some ⟨b, off, none⟩) k sc T rfl (HSH.out.below hb1) (by unfold maxLen; omega) (by omega) hz1 ?_)
      rintro v2 w2 ho hg hgr
      have hb2 : Below wr.heap.size wr w2 := hb1.trans (hg _ (Nat.le_refl _))
      have HB_w2 : Below w.heap.size w w2 := after0 HB_wr hb2
      obtain ⟨vo, vc, rfl, hss⟩ := OwnL.sl cI_len ho
      have hDT : (d ++ T).length = d.length + k := by rw [List.length_append, hTl]
      rw [hDT] at hss ⊢
      have HSS := Lib.hid hss
      clear ho hg hgr HO1 hss
      refine MixPost.intro ⟨⟨_, trivial⟩, rfl⟩ ?_
      repeat (any_goals (first | (go_big_quiet_skip; refine wpQuiet_nil ?_) | (go_big_quiet_want; go_big_quiet_op; go_big_quiet_on; refine wpQuiet_nil ?_) | ((with_reducible apply q_split); exact rfl; intro q hq; cases q <;> (rw [hq]; (try first | replace hq := bnot_t hq | replace hq := bnot_f hq); (try first | replace hq := of_decide_eq_true hq | replace hq := of_decide_eq_false hq | replace hq := eq_of_beq hq); (try first | replace hq := Int.not_lt.1 hq | replace hq := Int.not_le.1 hq | replace hq := Nat.not_lt.1 hq | replace hq := Nat.not_le.1 hq); try (exfalso; omega))) | (refine plan_q rfl rfl ?_)))
      refine plan_e rfl ?_
      go_wp2_with fail
      refine (sorted_any _ _ _ (d ++ T) _ HSS.out (by omega)).mono ?_
      rintro e w3 ⟨v, rfl, ho, hb_w3⟩
      have HB_w3 : Below w.heap.size w w3 := by first | exact after0 HB_w2 hb_w3 | exact after1 HB_w2 hb_w3 | exact after2 HB_w2 hb_w3 | exact after3 HB_w2 hb_w3 | exact after4 HB_w2 hb_w3 | exact after5 HB_w2 hb_w3
      obtain ⟨so, sn, rfl, hs3⟩ := ho.sl cI_len
      rw [srt_len, hDT] at hs3
      rw [srt_len, hDT]
      have HR := Lib.hid (Ready_any _ _ _ l _ _ _ (srt (d ++ T)) _ (HS.out.below HB_w3) hs3)
      rw [HE1.out] at HR
      have hb23 := after0 hb2 hb_w3
      clear ho hs3 hDT
      go_wp2_with fail
      refine MixPost.intro ⟨⟨_, trivial⟩, rfl⟩ ?_
      repeat (any_goals (first | (go_big_quiet_skip; refine wpQuiet_nil ?_) | (go_big_quiet_want; go_big_quiet_op; go_big_quiet_on; refine wpQuiet_nil ?_) | ((with_reducible apply q_split); exact rfl; intro q hq; cases q <;> (rw [hq]; (try first | replace hq := bnot_t hq | replace hq := bnot_f hq); (try first | replace hq := of_decide_eq_true hq | replace hq := of_decide_eq_false hq | replace hq := eq_of_beq hq); (try first | replace hq := Int.not_lt.1 hq | replace hq := Int.not_le.1 hq | replace hq := Nat.not_lt.1 hq | replace hq := Nat.not_le.1 hq); try (exfalso; omega))) | (refine plan_q rfl rfl ?_)))
      refine plan_e rfl ?_
      go_wp2_with fail
      refine (HR.out).mono ?_
      rintro e w4 ⟨ro, rn, rc, rfl, hr, hb_w4⟩
      have HB_w4 : Below w.heap.size w w4 := by first | exact after0 HB_w3 hb_w4 | exact after1 HB_w3 hb_w4 | exact after2 HB_w3 hb_w4 | exact after3 HB_w3 hb_w4 | exact after4 HB_w3 hb_w4 | exact after5 HB_w3 hb_w4
      obtain rfl := hr.len
      have hrm := hr.max
      have hrl := hr.le
      unfold maxLen at hrm
      have HRR := Lib.hid hr
      have hb4 := after0 hb23 hb_w4
      clear hr HR
      go_wp2_with fail
      refine MixPost.intro ⟨⟨_, trivial⟩, rfl⟩ ?_
      repeat (any_goals (first | (go_big_quiet_skip; refine wpQuiet_nil ?_) | (go_big_quiet_want; go_big_quiet_op; go_big_quiet_on; refine wpQuiet_nil ?_) | ((with_reducible apply q_split); exact rfl; intro q hq; cases q <;> (rw [hq]; (try first | replace hq := bnot_t hq | replace hq := bnot_f hq); (try first | replace hq := of_decide_eq_true hq | replace hq := of_decide_eq_false hq | replace hq := eq_of_beq hq); (try first | replace hq := Int.not_lt.1 hq | replace hq := Int.not_le.1 hq | replace hq := Nat.not_lt.1 hq | replace hq := Nat.not_le.1 hq); try (exfalso; omega))) | (refine plan_q rfl rfl ?_)))
      refine plan_done ?_
      try simp only [List.drop_succ_cons, List.drop_zero]
      go_wp2_with fail
      refine NoPanic.normal ?_
      clear hst y_n
      have hst := slice_head (P := Try.prog) (t := 23) (by kernel_rfl) (fun W => by kernel_rfl) HSR.out k (by omega)
      obtain ⟨b8, off8, rfl, hb8, hrow8⟩ := HRR.out.get (i := 0) (by simp)
      have f_0 := (hrow8 0 (by simp)).c1
      simp only [Nat.zero_mul, Nat.add_zero, List.getElem_cons_zero] at f_0
      have HH1 := Lib.hid (rhas_any _ _ _ T x _ (HSH.out.below hb4))
      rw [HE2.out] at HH1
      clear hrow8
      go_wp2_with fail
      refine (HH1.out).mono ?_
      rintro e w5 ⟨rfl, hb_w5⟩
      have HB_w5 : Below w.heap.size w w5 := by first | exact after0 HB_w4 hb_w5 | exact after1 HB_w4 hb_w5 | exact after2 HB_w4 hb_w5 | exact after3 HB_w4 hb_w5 | exact after4 HB_w4 hb_w5 | exact after5 HB_w4 hb_w5
      have HH2 := Lib.hid (rhas_any _ _ _ d x _ (HD.out.below HB_w5))
      rw [HE3.out] at HH2
      have HB55 := Lib.hid (after0 HB5.out (after0 hb4 hb_w5))
      clear HH1 hst f_0
      go_wp2_with fail
      refine (HH2.out).mono ?_
      rintro e w6 ⟨rfl, hb_w6⟩
      have HB_w6 : Below w.heap.size w w6 := by first | exact after0 HB_w5 hb_w6 | exact after1 HB_w5 hb_w6 | exact after2 HB_w5 hb_w6 | exact after3 HB_w5 hb_w6 | exact after4 HB_w5 hb_w6 | exact after5 HB_w5 hb_w6
      have HB56 := Lib.hid (after0 HB55.out hb_w6)
      clear HH2
      go_wp2_with fail
      go_roundw
      case rel => exact ⟨k + 1, hlk, rfl, by go_num, HB56.out⟩
      case measure => simp [intOf] <;> omega
    · obtain rfl : k = N.length := by omega
      obtain ⟨W6, rfl⟩ : ∃ X, X = wr := ⟨_, rfl⟩
      have HB_W6 := HB_wr
      have HSW6 := Lib.hid (HSW.out.below HB5.out)
      clear HSW HB5 HB_wr HNX
      go_wp2_with fail
      all_goals try (exfalso; omega)
      go_loopw [5, 103] (fun up i wr => ∃ (k : Nat), k ≤ l.length ∧ up = .bool true ∧ i = .int .i64 k ∧ Hid (Below W6.heap.size W6 wr)) (fun _ i _ => l.length - (intOf i).toNat)
      case atStart => exact ⟨0, Nat.zero_le _, rfl, rfl, Below.refl _ _⟩
      case round =>
        obtain ⟨k, hk, rfl, rfl, HB5⟩ := hrel
        have HB_wr := after0 HB_W6 HB5.out
        by_cases hlk : k < l.length
        · have HSl := Lib.hid (HS.out.below HB_wr)
          obtain ⟨b', off, rfl, hb, hrow⟩ := HSl.out.1.get hlk
          obtain ⟨e_0, e_1⟩ := (hrow k hlk).c2
          have HIN := Lib.hid (show inN l l[k].n = true from inN_iff.2 ⟨_, List.getElem_mem hlk, rfl⟩)
          clear hrow
          generalize l[k] = s at *
          obtain ⟨s0, s1, s2, s3, s4⟩ := s
          dsimp only at e_0 e_1 HIN
          obtain ⟨NS, hNS⟩ : ∃ N, wr.heap.size = N := ⟨_, rfl⟩
          obtain ⟨W2, hW2, hB2, hZ2, hb2⟩ := boxes1 wr [.int .i64 s0, .slice s1 s2 s3] 44
          rw [hNS] at hb2
          have H_s := Lib.hid hb2
          have HB_W2 : Below w.heap.size w W2 := after0 HB_wr hB2
          have HB52 := Lib.hid (after0 HB5.out hB2)
          have HN2 := Lib.hid (HSW6.out.below HB52.out)
          obtain ⟨q, hq⟩ : ∃ q, d.contains s0 = q := ⟨_, rfl⟩
          have HH1 := Lib.hid (show ∀ W, Below W2.heap.size W2 W → Calls Try.prog 32 #[.slice so N.length sc, .int .i64 s0] W (Ret W (.bool (!q))) from fun W hW => by
            have := rhas_any _ _ _ N s0 W (HN2.out.below hW)
            rwa [HOH.out, HIN.out, hq, Bool.true_and] at this)
          have HH2 := Lib.hid (show ∀ W, Below W2.heap.size W2 W → Calls Try.prog 32 #[.slice bo d.length capb, .int .i64 s0] W (Ret W (.bool q)) from fun W hW => by
            have := rhas_any _ _ _ d s0 W (HD.out.below (after0 HB_W2 hW))
            rwa [hq] at this)
          clear hb2 hB2 hZ2 hq
          obtain ⟨q_s_0, q_s_1⟩ := H_s.out.c2
          go_wp2_with fail
          clear hW2
          cases q
          all_goals
            have y_q_s_0 := cell_regrown q_s_0
            have y_q_s_1 := cell_regrown q_s_1
            clear q_s_0 q_s_1
            refine wp_region_plan (C := fun w' => ∃ p : Regrown, w' = grow (redrawn W2 p.d) p.os) (.q 0 (.q 1 (.q 2 (.q 3 (.q 4 (.q 6 (.q 7 (.q 8 (.e 5 (.e 9 (.q 10 (.q 11 (.q 12 (.done)))))))))))))) 13 (by kernel_rfl) (by kernel_rfl) (grew_drew _) ?_
            repeat (any_goals (first | (go_big_quiet_skip; refine wpQuiet_nil ?_) | (go_big_quiet_want; go_big_quiet_op; go_big_quiet_on; refine wpQuiet_nil ?_) | ((with_reducible apply q_split); exact rfl; intro q hq; cases q <;> (rw [hq]; (try first | replace hq := bnot_t hq | replace hq := bnot_f hq); (try first | replace hq := of_decide_eq_true hq | replace hq := of_decide_eq_false hq | replace hq := eq_of_beq hq); (try first | replace hq := Int.not_lt.1 hq | replace hq := Int.not_le.1 hq | replace hq := Nat.not_lt.1 hq | replace hq := Nat.not_le.1 hq); try (exfalso; omega))) | (refine plan_q rfl rfl ?_)))
            refine plan_e rfl ?_
            go_wp2_with fail
            refine (HH1.out _ (below_drew)).mono ?_
            rintro e w3 ⟨rfl, hb_w3⟩
            have HW_w3 : Below W2.heap.size W2 w3 := below_undrew hb_w3
            clear hb_w3
            go_wp2_with fail
            refine MixPost.intro (grew_of_below HW_w3) ?_
            repeat (any_goals (first | (go_big_quiet_skip; refine wpQuiet_nil ?_) | (go_big_quiet_want; go_big_quiet_op; go_big_quiet_on; refine wpQuiet_nil ?_) | ((with_reducible apply q_split); exact rfl; intro q hq; cases q <;> (rw [hq]; (try first | replace hq := bnot_t hq | replace hq := bnot_f hq); (try first | replace hq := of_decide_eq_true hq | replace hq := of_decide_eq_false hq | replace hq := eq_of_beq hq); (try first | replace hq := Int.not_lt.1 hq | replace hq := Int.not_le.1 hq | replace hq := Nat.not_lt.1 hq | replace hq := Nat.not_le.1 hq); try (exfalso; omega))) | (refine plan_q rfl rfl ?_)))
            refine plan_e rfl ?_
            go_wp2_with fail
            refine (HH2.out _ HW_w3).mono ?_
            rintro e w4 ⟨rfl, hb_w4⟩
            have HW_w4 : Below W2.heap.size W2 w4 := after0 HW_w3 hb_w4
            clear hb_w4
            go_wp2_with fail
            refine MixPost.intro (grew_of_below HW_w4) ?_
            repeat (any_goals (first | (go_big_quiet_skip; refine wpQuiet_nil ?_) | (go_big_quiet_want; go_big_quiet_op; go_big_quiet_on; refine wpQuiet_nil ?_) | ((with_reducible apply q_split); exact rfl; intro q hq; cases q <;> (rw [hq]; (try first | replace hq := bnot_t hq | replace hq := bnot_f hq); (try first | replace hq := of_decide_eq_true hq | replace hq := of_decide_eq_false hq | replace hq := eq_of_beq hq); (try first | replace hq := Int.not_lt.1 hq | replace hq := Int.not_le.1 hq | replace hq := Nat.not_lt.1 hq | replace hq := Nat.not_le.1 hq); try (exfalso; omega))) | (refine plan_q rfl rfl ?_)))
            clear y_q_s_0 y_q_s_1
            all_goals refine plan_done ?_
            all_goals (try simp only [List.drop_succ_cons, List.drop_zero])
            all_goals (try go_wp2_with fail)
            all_goals refine NoPanic.normal ?_
            all_goals (try go_wp2_with fail)
            have HB54 := Lib.hid (after0 HB52.out HW_w4)
            go_roundw
            case rel => exact ⟨k + 1, hlk, rfl, by go_num, HB54.out⟩
            case measure => simp [intOf] <;> omega
        · obtain rfl : k = l.length := by omega
          have HN7 := Lib.hid (HSW6.out.below HB5.out)
          by_cases hd0 : 0 < (d.length : Int)
          ·
            go_wp2_with fail
            all_goals try (exfalso; omega)
            go_ret
            exact ⟨rfl, HB_wr⟩
          · have hde : d = [] := List.eq_nil_of_length_eq_zero (by omega)
            have HPP := Lib.hid (Permitted_any _ _ _ l _ _ _ N _ (HS.out.below HB_wr) HN7.out)
            rw [HOE.out hde, HPR.out, ← HOE.out hde] at HPP
            have hd0' : (d.length : Int) ≤ 0 := by omega
            clear hde hd0
            go_wp2_with fail
            all_goals try (exfalso; omega)
            refine (HPP.out).mono ?_
            rintro e w7 ⟨rfl, hb_w7⟩
            have HB_w7 : Below w.heap.size w w7 := by first | exact after0 HB_wr hb_w7 | exact after1 HB_wr hb_w7 | exact after2 HB_wr hb_w7 | exact after3 HB_wr hb_w7 | exact after4 HB_wr hb_w7 | exact after5 HB_wr hb_w7
            clear HPP
            go_wp2_with fail
            all_goals try (exfalso; omega)
            have HN8 := Lib.hid (HN7.out.below hb_w7)
            refine (sorted_any _ _ _ N _ HN8.out (by omega)).mono ?_
            rintro e w8 ⟨v, rfl, ho, hb_w8⟩
            have HB_w8 : Below w.heap.size w w8 := by first | exact after0 HB_w7 hb_w8 | exact after1 HB_w7 hb_w8 | exact after2 HB_w7 hb_w8 | exact after3 HB_w7 hb_w8 | exact after4 HB_w7 hb_w8 | exact after5 HB_w7 hb_w8
            rw [HSI.out] at ho
            obtain ⟨so2, sc2, rfl, hs8⟩ := ho.sl cI_len
            have HI2 := Lib.hid (rints_any _ _ _ _ _ _ N N _ (HN8.out.below hb_w8) hs8)
            rw [decide_eq_true rfl] at HI2
            clear hs8 ho
            go_wp2_with fail
            refine (HI2.out).mono ?_
            rintro e w9 ⟨rfl, hb_w9⟩
            have HB_w9 : Below w.heap.size w w9 := by first | exact after0 HB_w8 hb_w9 | exact after1 HB_w8 hb_w9 | exact after2 HB_w8 hb_w9 | exact after3 HB_w8 hb_w9 | exact after4 HB_w8 hb_w9 | exact after5 HB_w8 hb_w9
            go_wp2_with fail
            go_ret
            exact ⟨rfl, HB_w9⟩
end Go.Proofs.Ytofilkphaelceaa
