/-
  The law ScheduleAdmitted.
-/
import Derived.Test.YtheioedggjbphaaSdW
set_option linter.unusedVariables false
namespace Sc
theorem planP {J : List Jb} {f : Int} {q : List Nat} (hv : validJ J = true) (hf : slotB f = true) (hm : ∀ x ∈ q, x < J.length) (hl : q.length ≤ 100) : planR (pickJ J q) f = (planF (pickJ J q) f, 0) := by
  unfold planR
  rw [pickJ_valid (validJ_iff.1 hv).2 hm hl, hf]
  rfl
theorem mem_tk {A : List Nat} {i k : Nat} (hk : k < A.length) : decide (i ∈ A.take (k + 1)) = (decide (i ∈ A.take k) || ((A[k] : Int) == (i : Int))) := by
  rw [List.take_add_one, List.getElem?_eq_getElem hk, Option.toList_some]
  by_cases h : i ∈ A.take k
  · rw [decide_eq_true h, decide_eq_true (List.mem_append.2 (.inl h))]
    rfl
  · rw [decide_eq_false h, Bool.false_or]
    by_cases e : A[k] = i
    · rw [decide_eq_true (List.mem_append.2 (.inr (by rw [List.mem_singleton, e])))]
      symm
      exact beq_iff_eq.2 (by rw [e])
    · rw [decide_eq_false (fun hm => (List.mem_append.1 hm).elim h (fun hm => e (List.mem_singleton.1 hm).symm))]
      symm
      exact beq_eq_false_iff_ne.2 (by omega)
theorem flt_yes {A : List Nat} {p : Nat → Bool} {k : Nat} (hk : k < A.length) (h : p A[k] = true) : (A.take (k + 1)).filter p = (A.take k).filter p ++ [A[k]] := by
  rw [List.take_add_one, List.getElem?_eq_getElem hk, Option.toList_some, List.filter_append]
  simp [h]
theorem flt_no {A : List Nat} {p : Nat → Bool} {k : Nat} (hk : k < A.length) (h : p A[k] = false) : (A.take (k + 1)).filter p = (A.take k).filter p := by
  rw [List.take_add_one, List.getElem?_eq_getElem hk, Option.toList_some, List.filter_append]
  simp [h]
theorem befB_at {J : List Jb} {x i : Nat} (hx : x < J.length) (hi : i < J.length) : befB J x i = decide (J[i].prio < J[x].prio ∨ J[i].prio = J[x].prio ∧ x < i) := by unfold befB; rw [jat_get hx, jat_get hi]
/-- what the law asks of the admitted jobs -/
structure AdmI (J : List Jb) (f : Int) (A : List Nat) : Prop where
  rise : A.Pairwise (· < ·)
  low : ∀ x ∈ A, x < J.length
  len : A.length ≤ J.length
  all : lateF (pickJ J A) (planF (pickJ J A) f) = []
  out : ∀ i, i < J.length → i ∉ A → lateF (pickJ J (srtN (A.filter (fun x => befB J x i) ++ [i]))) (planF (pickJ J (srtN (A.filter (fun x => befB J x i) ++ [i]))) f) ≠ []
theorem AdmI.of {J : List Jb} {f : Int} {q : List Nat} (h : AskL J q) : AdmI J f (admF J f q) := by
  refine ⟨admF_rise (h.1.nodup_iff.2 List.nodup_range), fun x hx => ask_lt h x (admF_mem x hx), by rw [← ask_len h]; exact admF_len J f q, List.isEmpty_iff.1 admF_fits, fun i hi hn e => ?_⟩
  have := adm_law (f := f) h hi hn
  unfold fits at this
  rw [e] at this
  cases this
theorem AdmI.one {J : List Jb} {f : Int} {A : List Nat} (h : AdmI J f A) {i : Nat} (hi : i < J.length) (hn : i ∉ A) :
    (srtN (A.filter (fun x => befB J x i) ++ [i])).Pairwise (· < ·) ∧ (∀ x ∈ srtN (A.filter (fun x => befB J x i) ++ [i]), x < J.length) ∧ (srtN (A.filter (fun x => befB J x i) ++ [i])).length ≤ A.length + 1 := by
  refine ⟨srtN_rise (List.nodup_append.2 ⟨(h.rise.imp (fun h => Nat.ne_of_lt h)).filter _, by simp, fun a ha b hb => ?_⟩), fun x hx => ?_, ?_⟩
  · rw [List.mem_singleton] at hb
    rintro rfl
    subst hb
    exact hn (List.mem_filter.1 ha).1
  · rw [srtN_mem, List.mem_append, List.mem_singleton] at hx
    rcases hx with hx | rfl
    · exact h.low x (List.mem_filter.1 hx).1
    · exact hi
  · rw [srtN_len, List.length_append]
    have := List.length_filter_le (fun x => befB J x i) A
    simp only [List.length_singleton]
    omega
end Sc
namespace Go.Proofs.Ytheioedggjbphaa
open Go Go.RowKit Sc Sk Go.Sort
theorem Plan_p {ao : Option Addr} {n cap : Nat} {J : List Jb} {q : List Nat} {f : Int} (w : World) (hs : Sl w 4 cJ ao n cap (pickJ J q)) (hv : validJ J = true) (hf : slotB f = true) (hm : ∀ x ∈ q, x < J.length) (hl : q.length ≤ 100) :
    Calls Try.prog 15 #[.slice ao n cap, .int .i64 f] w (SnsK w (planF (pickJ J q) f) 0) := (Plan_k ao n cap _ f w hs).mono fun _ _ h => by rwa [planP hv hf hm hl] at h
theorem Late_p {ao : Option Addr} {n cap : Nat} {bo : Option Addr} {m capb : Nat} {J : List Jb} {q : List Nat} {f : Int} (w : World) (hs : Sl w 4 cJ ao n cap (pickJ J q)) (ht : Sl w 3 cS bo m capb (planF (pickJ J q) f)) (hv : validJ J = true) (hf : slotB f = true) (hm : ∀ x ∈ q, x < J.length) (hl : q.length ≤ 100) :
    Calls Try.prog 18 #[.slice ao n cap, .slice bo m capb] w (IntsK w (lateF (pickJ J q) (planF (pickJ J q) f)) 0) :=
  Late_k w hs ht (pickJ_valid (validJ_iff.1 hv).2 hm hl) (plan_names (slotB_iff.1 hf).1)
/-- the row as a slice -/
def RowK (w : World) (l : List Jb) (e : Ending) (w' : World) : Prop := ∃ ao cap, e = .returned (.tuple #[.slice ao l.length cap, .bool true]) ∧ Sl w' 4 cJ ao l.length cap l ∧ Below w.heap.size w w'
def NatK (w : World) (l : List Nat) (e : Ending) (w' : World) : Prop := ∃ ao cap, e = .returned (.slice ao l.length cap) ∧ Sl w' 1 cN ao l.length cap l ∧ Below w.heap.size w w'
theorem RowB.K {w : World} {l : List Jb} {e : Ending} {w' : World} (h : RowB w l e w') : RowK w l e w' := by
  obtain ⟨v, rfl, ho, hb⟩ := h
  obtain ⟨ao, cap, rfl, hs⟩ := ho.sl cJ_len
  exact ⟨ao, cap, rfl, hs, hb⟩
theorem NatE.K {w : World} {l : List Nat} {e : Ending} {w' : World} (h : NatE w l e w') : NatK w l e w' := by
  obtain ⟨v, rfl, ho, hb⟩ := h
  obtain ⟨ao, cap, rfl, hs⟩ := ho.sl cN_len
  exact ⟨ao, cap, rfl, hs, hb⟩
theorem some_k {jo : Option Addr} {n cap : Nat} {J : List Jb} {qo : Option Addr} {m capq : Nat} {q : List Nat} (w : World) (hs : Sl w 4 cJ jo n cap J) (hq : Sl w 1 cN qo m capq q) (hm : ∀ x ∈ q, x < J.length) (hl : q.length ≤ 1000) (hr : q.Pairwise (· < ·)) :
    Calls Try.prog 29 #[.slice jo n cap, .slice qo m capq] w (RowK w (pickJ J q)) := (some_any jo n cap J qo m capq q w hs hq hm hl hr).mono fun _ _ h => h.K
theorem with_k {qo : Option Addr} {m capq : Nat} {q : List Nat} {n : Nat} (w : World) (hq : Sl w 1 cN qo m capq q) (hl : q.length ≤ 1000) (hr : q.Pairwise (· < ·)) (hn : n ≤ 1000) :
    Calls Try.prog 30 #[.slice qo m capq, .int .i64 (n : Int)] w (NatK w (srtN (q ++ [n]))) := (rwith_any qo m capq q n w hq hl hr hn).mono fun _ _ h => h.K
set_option maxRecDepth 100000 in
set_option maxHeartbeats 16000000 in
theorem admitted_walk (hso : SortOk) (ao : Option Addr) (n cap : Nat) (l : List Jb) (f : Int) (w : World) (hs : Sl w 4 cJ ao n cap l) :
    Calls Try.prog 8 #[.slice ao n cap, .int .i64 f] w (Ret w (.bool true)) := by
  obtain rfl := hs.len
  have hle := hs.le
  have hcap := hs.max
  have HCAP := Lib.hid hcap
  have hcap2 := hcap
  unfold maxLen at hcap2
  have HS := Lib.hid hs
  have HSO := Lib.hid hso
  clear hs hso hcap
  have HB_w : Below w.heap.size w w := Below.refl _ _
  obtain ⟨i2, hi, hz0, hz1, hz2⟩ := info_parts info_int
  have HI2 := Lib.hid hi
  have HZ20 := Lib.hid hz0
  have HZ21 := Lib.hid hz1
  have HZ22 := Lib.hid hz2
  clear hi hz0 hz1 hz2
  go_enter Try.func8, Try.ntmps8
  go_wp2_with fail
  refine (head_any HSO.out _).mono ?_
  rintro e wa ⟨rfl, hb_wa⟩
  have HB_wa : Below w.heap.size w wa := by first | exact after0 HB_w hb_wa | exact after1 HB_w hb_wa | exact after2 HB_w hb_wa | exact after3 HB_w hb_wa | exact after4 HB_w hb_wa | exact after5 HB_w hb_wa
  go_wp2_with fail
  refine (rfew_any ao l.length cap _ hle HCAP.out).mono ?_
  rintro e wb ⟨rfl, hb_wb⟩
  have HB_wb : Below w.heap.size w wb := by first | exact after0 HB_wa hb_wb | exact after1 HB_wa hb_wb | exact after2 HB_wa hb_wb | exact after3 HB_wa hb_wb | exact after4 HB_wa hb_wb | exact after5 HB_wa hb_wb
  by_cases h12 : l.length ≤ 12
  case neg =>
    rw [decide_eq_false h12]
    go_wp2_with fail
    all_goals try (exfalso; omega)
    go_ret
    exact ⟨rfl, HB_wb⟩
  rw [decide_eq_true h12]
  go_wp2_with fail
  all_goals try (exfalso; omega)
  refine (Admit_any HSO.out ao l.length cap l f _ (HS.out.below HB_wb) (by omega)).mono ?_
  rintro e wc ⟨v, L, er, rfl, ho, hsp, hb_wc⟩
  have HB_wc : Below w.heap.size w wc := by first | exact after0 HB_wb hb_wc | exact after1 HB_wb hb_wc | exact after2 HB_wb hb_wc | exact after3 HB_wb hb_wc | exact after4 HB_wb hb_wc | exact after5 HB_wb hb_wc
  have HS1 := Lib.hid (HS.out.below HB_wc)
  clear HS
  unfold AdmSp at hsp
  by_cases hvs : validJ l = true ∧ slotB f = true
  case neg =>
    rw [if_neg hvs] at hsp
    obtain ⟨rfl, rfl⟩ := hsp
    clear ho hvs
    go_wp2_with fail
    all_goals try (exfalso; omega)
    go_ret
    exact ⟨rfl, HB_wc⟩
  rw [if_pos hvs] at hsp
  obtain ⟨rfl, q, hq, rfl⟩ := hsp
  have HVS := Lib.hid hvs
  have HAI := Lib.hid (AdmI.of (f := f) hq)
  have ho2 := ownN_I.2 ho
  clear ho hvs hq
  generalize admF l f q = A at *
  obtain ⟨oa, ca, rfl, hsa⟩ := ho2.sl cN_len
  have HA := Lib.hid hsa
  have hal := HAI.out.len
  have hac := hsa.max
  have hale := hsa.le
  unfold maxLen at hac
  clear ho2 hsa
  go_wp2_with fail
  refine (some_k _ HS1.out HA.out HAI.out.low (by omega) HAI.out.rise).mono ?_
  rintro e wd ⟨ob, cb, rfl, hb, hb_wd⟩
  have HB_wd : Below w.heap.size w wd := by first | exact after0 HB_wc hb_wd | exact after1 HB_wc hb_wd | exact after2 HB_wc hb_wd | exact after3 HB_wc hb_wd | exact after4 HB_wc hb_wd | exact after5 HB_wc hb_wd
  have HR := Lib.hid hb
  clear hb
  go_wp2_with fail
  refine (Plan_p _ HR.out HVS.out.1 HVS.out.2 HAI.out.low (by omega)).mono ?_
  rintro e we ⟨oc, nc, cc, rfl, hc, hb_we⟩
  have HB_we : Below w.heap.size w we := by first | exact after0 HB_wd hb_we | exact after1 HB_wd hb_we | exact after2 HB_wd hb_we | exact after3 HB_wd hb_we | exact after4 HB_wd hb_we | exact after5 HB_wd hb_we
  obtain rfl := hc.len
  have HP := Lib.hid hc
  replace HR := Lib.hid (HR.out.below hb_we)
  clear hc
  go_wp2_with fail
  refine (Late_p _ HR.out HP.out HVS.out.1 HVS.out.2 HAI.out.low (by omega)).mono ?_
  rintro e wf ⟨od, nd, cd, rfl, hd, hb_wf⟩
  have HB_wf : Below w.heap.size w wf := by first | exact after0 HB_we hb_wf | exact after1 HB_we hb_wf | exact after2 HB_we hb_wf | exact after3 HB_we hb_wf | exact after4 HB_we hb_wf | exact after5 HB_we hb_wf
  rw [HAI.out.all] at hd
  obtain rfl := hd.len
  have HBC := Lib.hid ((hb_wd.trans (hb_we.mono hb_wd.size)).trans (hb_wf.mono (hb_wd.trans (hb_we.mono hb_wd.size)).size))
  replace HS1 := Lib.hid (HS1.out.below HBC.out)
  replace HA := Lib.hid (HA.out.below HBC.out)
  clear hd HR HP HBC hb_wd hb_we hb_wf HB_wa HB_wb HB_wc HB_wd HB_we
  simp only [List.length_nil]
  generalize (pickJ l A).length = pn at *
  generalize (planF (pickJ l A) f).length = pln at *
  go_wp2_with fail
  go_loopw [5, 14] (fun up i wr => ∃ i' : Nat, i' ≤ l.length ∧ i = .int .i64 i' ∧ up = .bool true ∧ Below w.heap.size w wr ∧ Hid (Below wf.heap.size wf wr)) (fun _ i _ => l.length - (intOf i).toNat)
  case atStart => exact ⟨0, Nat.zero_le _, rfl, rfl, HB_wf, Below.refl _ _⟩
  case round =>
    obtain ⟨i, hi, rfl, rfl, HB_wr, HBF⟩ := hrel
    by_cases hil : i < l.length
    · obtain ⟨V, rfl⟩ : ∃ V, V = wr := ⟨_, rfl⟩
      have HSV := Lib.hid (HS1.out.below HBF.out)
      have HAV := Lib.hid (HA.out.below HBF.out)
      have hVs := HB_wr.size
      have HBW := Lib.hid HB_wr
      go_wp2_with fail
      go_loopw [15, 16, 17] (fun o ad k wr => ∃ k' : Nat, k' ≤ A.length ∧ ad = .bool (decide (i ∈ A.take k')) ∧ k = .int .i64 k' ∧ Below w.heap.size w wr ∧ Hid (Below V.heap.size V wr) ∧ Hid (OwnL wr V.heap.size 3 1 cN o ((A.take k').filter (fun x => befB l x i)))) (fun _ _ k _ => A.length - (intOf k).toNat)
      case atStart => exact ⟨0, Nat.zero_le _, by simp, rfl, HB_wr, Below.refl _ _, OwnL.nil⟩
      case round =>
        clear HB_wr
        obtain ⟨k, hk, rfl, rfl, HB_wr, HBV, HO⟩ := hrel
        by_cases hlt : k < A.length
        · obtain ⟨bq, offq, rfl, hbq, hrowq⟩ := (HAV.out.below HBV.out).get hlt
          have g_0 := (hrowq k hlt).c1
          rw [Nat.mul_one] at g_0
          have hxl := HAI.out.low _ (List.getElem_mem hlt)
          obtain ⟨bj, offj, rfl, hbj, hrow⟩ := (HSV.out.below HBV.out).get hxl
          obtain ⟨e_0, e_1, e_2, e_3⟩ := (hrow _ hxl).c4
          obtain ⟨f_0, f_1, f_2, f_3⟩ := (hrow i hil).c4
          have HAD := Lib.hid (mem_tk (i := i) hlt)
          have HYES := Lib.hid (flt_yes (p := fun x => befB l x i) hlt)
          have HNO := Lib.hid (flt_no (p := fun x => befB l x i) hlt)
          have HBFO := Lib.hid (befB_at hxl hil)
          have hpl : ((A.take k).filter (fun x => befB l x i)).length ≤ A.length := Nat.le_trans (List.length_filter_le _ _) (List.length_take_le' _ _)
          have hxi : (A[k] : Int) < (l.length : Int) := by omega
          have hii : (i : Int) < (l.length : Int) := by omega
          clear hrow hrowq
          generalize (A.take k).filter (fun x => befB l x i) = pre at *
          generalize A[k] = x at *
          generalize l[x] = y at *
          generalize l[i] = z at *
          obtain ⟨y0, y1, y2, y3⟩ := y
          obtain ⟨z0, z1, z2, z3⟩ := z
          dsimp only at e_0 e_1 e_2 e_3 f_0 f_1 f_2 f_3 HBFO HYES HNO
          generalize befB l x i = bv at *
          generalize decide (i ∈ A.take k) = ad at *
          cases ad
          · rw [Bool.false_or] at HAD
            go_wp2_with fail
            rcases Int.lt_trichotomy y3 z3 with hp | hp | hp
            · have HFL := Lib.hid (HNO.out (by rw [HBFO.out]; exact decide_eq_false (by omega)))
              have hp2 : (y3 == z3) = false := beq_eq_false_iff_ne.2 (by omega)
              clear HYES HNO HBFO
              have y_e_0 := cell_regrown e_0
              have y_e_1 := cell_regrown e_1
              have y_e_2 := cell_regrown e_2
              have y_e_3 := cell_regrown e_3
              clear e_0 e_1 e_2 e_3
              have y_f_0 := cell_regrown f_0
              have y_f_1 := cell_regrown f_1
              have y_f_2 := cell_regrown f_2
              have y_f_3 := cell_regrown f_3
              clear f_0 f_1 f_2 f_3
              have y_g := cell_regrown g_0
              refine wp_region_plan (C := fun w' => ∃ p : Regrown, w' = grow (redrawn wr p.d) p.os) (.q 0 (.q 1 (.q 2 (.q 3 (.q 4 (.q 5 (.q 6 (.q 7 (.q 8 (.q 9 (.q 10 (.q 11 (.q 12 (.q 13 (.q 14 (.q 15 (.q 16 (.q 17 (.q 18 (.q 19 (.q 20 (.q 21 (.q 22 (.q 23 (.q 24 (.q 25 (.q 26 (.q 27 (.q 28 (.q 29 (.q 30 (.q 31 (.q 32 (.q 33 (.q 34 (.q 35 (.q 36 (.q 37 (.q 38 (.done)))))))))))))))))))))))))))))))))))))))) 39 (by kernel_rfl) (by kernel_rfl) (grew_drew _) ?_
              repeat (any_goals (first | (go_big_quiet_skip; refine wpQuiet_nil ?_) | (go_big_quiet_want; go_big_quiet_op; go_big_quiet_on; refine wpQuiet_nil ?_) | ((with_reducible apply q_split); exact rfl; intro q hq; cases q <;> (rw [hq]; (try first | replace hq := bnot_t hq | replace hq := bnot_f hq); (try first | replace hq := of_decide_eq_true hq | replace hq := of_decide_eq_false hq | replace hq := eq_of_beq hq); (try first | replace hq := Int.not_lt.1 hq | replace hq := Int.not_le.1 hq | replace hq := Nat.not_lt.1 hq | replace hq := Nat.not_le.1 hq); try (exfalso; omega))) | (refine plan_q rfl rfl ?_)))
              clear y_e_0 y_e_1 y_e_2 y_e_3
              clear y_f_0 y_f_1 y_f_2 y_f_3
              clear y_g
              all_goals refine plan_done ?_
              all_goals (try simp only [List.drop_succ_cons, List.drop_zero])
              all_goals (try go_wp2_with fail)
              all_goals refine NoPanic.normal ?_
              all_goals (try go_wp2_with fail)
              go_roundw
              case rel => exact ⟨k + 1, hlt, by rw [HAD.out], by go_num, HB_wr.drew, HBV.out.drew, by rw [HFL.out]; exact HO.out.drew⟩
              case measure => simp [intOf] <;> omega
            · subst hp
              by_cases hx : (x : Int) < (i : Int)
              · have HFL := Lib.hid (HYES.out (by rw [HBFO.out]; exact decide_eq_true (by omega)))
                clear HYES HNO HBFO
                have y_e_0 := cell_regrown e_0
                have y_e_1 := cell_regrown e_1
                have y_e_2 := cell_regrown e_2
                have y_e_3 := cell_regrown e_3
                clear e_0 e_1 e_2 e_3
                have y_f_0 := cell_regrown f_0
                have y_f_1 := cell_regrown f_1
                have y_f_2 := cell_regrown f_2
                have y_f_3 := cell_regrown f_3
                clear f_0 f_1 f_2 f_3
                have y_g := cell_regrown g_0
                refine wp_region_plan (C := fun w' => ∃ p : Regrown, w' = grow (redrawn wr p.d) p.os) (.q 0 (.q 1 (.q 2 (.q 3 (.q 4 (.q 5 (.q 6 (.q 7 (.q 8 (.q 9 (.q 10 (.q 11 (.q 12 (.q 13 (.q 14 (.q 15 (.q 16 (.q 17 (.q 18 (.q 19 (.q 20 (.q 21 (.q 22 (.q 23 (.q 24 (.q 25 (.q 26 (.q 27 (.q 28 (.q 29 (.q 30 (.q 31 (.q 32 (.q 33 (.q 34 (.q 35 (.q 36 (.q 37 (.q 38 (.done)))))))))))))))))))))))))))))))))))))))) 39 (by kernel_rfl) (by kernel_rfl) (grew_drew _) ?_
                repeat (any_goals (first | (go_big_quiet_skip; refine wpQuiet_nil ?_) | (go_big_quiet_want; go_big_quiet_op; go_big_quiet_on; refine wpQuiet_nil ?_) | ((with_reducible apply q_split); exact rfl; intro q hq; cases q <;> (rw [hq]; (try first | replace hq := bnot_t hq | replace hq := bnot_f hq); (try first | replace hq := of_decide_eq_true hq | replace hq := of_decide_eq_false hq | replace hq := eq_of_beq hq); (try first | replace hq := Int.not_lt.1 hq | replace hq := Int.not_le.1 hq | replace hq := Nat.not_lt.1 hq | replace hq := Nat.not_le.1 hq); try (exfalso; omega))) | (refine plan_q rfl rfl ?_)))
                clear y_e_0 y_e_1 y_e_2 y_e_3
                clear y_f_0 y_f_1 y_f_2 y_f_3
                clear y_g
                all_goals refine plan_done ?_
                all_goals (try simp only [List.drop_succ_cons, List.drop_zero])
                all_goals (try go_wp2_with fail)
                all_goals refine NoPanic.normal ?_
                obtain ⟨wd, hW_wd⟩ : ∃ W, wr.drew = W := ⟨_, rfl⟩
                first | rw [hW_wd] | rw [show ({ heap := wr.heap, tape := wr.tape, drawn := wr.drawn + 1, os := wr.os, output := wr.output } : World) = wd from hW_wd]
                replace g_0 := cell_drew g_0
                have HB_wd : Below w.heap.size w wr.drew := HB_wr.drew
                have HBVd : Below V.heap.size V wr.drew := HBV.out.drew
                replace HO := Lib.hid HO.out.drew
                rw [hW_wd] at HO g_0 HB_wd HBVd
                clear hW_wd
                have HOX := Lib.hid (HO.out.alloc (.cells #[.int .i64 (x : Int)] 3))
                have HSX : Hid (Sl (wd.alloc (.cells #[.int .i64 (x : Int)] 3)) 1 cN (some ⟨wd.heap.size, 0, none⟩) 1 1 [x]) := Sl.one (x := x) cN_len (Box.new wd (cN x) 3)
                have hsz : V.heap.size ≤ (wd.alloc (.cells #[.int .i64 (x : Int)] 3)).heap.size := by have := HBVd.size; simp; omega
                go_wp2_with (at_builtin; refine wpList_append_sl rfl _ _ 30 rfl V.heap.size 3 i2 _ 1 8 Try.underlying30 HI2.out HZ20.out HZ21.out HZ22.out rfl (by decide) cN_len cN_one _ pre rfl HOX.out (some ⟨wd.heap.size, 0, none⟩) 1 1 [x] rfl HSX.out (by unfold maxLen; omega) (by omega) hsz ?_)
                rintro v6 w6 ho6 hg6 hgr6
                have HBV6 := Lib.hid (show Below V.heap.size V w6 from (grew1 HBVd).trans (hg6 _ (Nat.le_refl _)))
                have HB_w6 : Below w.heap.size w w6 := (grew1 HB_wd).trans (hg6 _ hVs)
                have HO6 := Lib.hid ho6
                clear hg6 hgr6 ho6 HOX HSX hsz HO g_0
                go_wp2_with fail
                go_roundw
                case rel => exact ⟨k + 1, hlt, by rw [HAD.out], by go_num, HB_w6, HBV6.out, by rw [HFL.out]; exact HO6.out⟩
                case measure => simp [intOf] <;> omega
              · have HFL := Lib.hid (HNO.out (by rw [HBFO.out]; exact decide_eq_false (by omega)))
                replace hx := Int.not_lt.1 hx
                clear HYES HNO HBFO
                have y_e_0 := cell_regrown e_0
                have y_e_1 := cell_regrown e_1
                have y_e_2 := cell_regrown e_2
                have y_e_3 := cell_regrown e_3
                clear e_0 e_1 e_2 e_3
                have y_f_0 := cell_regrown f_0
                have y_f_1 := cell_regrown f_1
                have y_f_2 := cell_regrown f_2
                have y_f_3 := cell_regrown f_3
                clear f_0 f_1 f_2 f_3
                have y_g := cell_regrown g_0
                refine wp_region_plan (C := fun w' => ∃ p : Regrown, w' = grow (redrawn wr p.d) p.os) (.q 0 (.q 1 (.q 2 (.q 3 (.q 4 (.q 5 (.q 6 (.q 7 (.q 8 (.q 9 (.q 10 (.q 11 (.q 12 (.q 13 (.q 14 (.q 15 (.q 16 (.q 17 (.q 18 (.q 19 (.q 20 (.q 21 (.q 22 (.q 23 (.q 24 (.q 25 (.q 26 (.q 27 (.q 28 (.q 29 (.q 30 (.q 31 (.q 32 (.q 33 (.q 34 (.q 35 (.q 36 (.q 37 (.q 38 (.done)))))))))))))))))))))))))))))))))))))))) 39 (by kernel_rfl) (by kernel_rfl) (grew_drew _) ?_
                repeat (any_goals (first | (go_big_quiet_skip; refine wpQuiet_nil ?_) | (go_big_quiet_want; go_big_quiet_op; go_big_quiet_on; refine wpQuiet_nil ?_) | ((with_reducible apply q_split); exact rfl; intro q hq; cases q <;> (rw [hq]; (try first | replace hq := bnot_t hq | replace hq := bnot_f hq); (try first | replace hq := of_decide_eq_true hq | replace hq := of_decide_eq_false hq | replace hq := eq_of_beq hq); (try first | replace hq := Int.not_lt.1 hq | replace hq := Int.not_le.1 hq | replace hq := Nat.not_lt.1 hq | replace hq := Nat.not_le.1 hq); try (exfalso; omega))) | (refine plan_q rfl rfl ?_)))
                clear y_e_0 y_e_1 y_e_2 y_e_3
                clear y_f_0 y_f_1 y_f_2 y_f_3
                clear y_g
                all_goals refine plan_done ?_
                all_goals (try simp only [List.drop_succ_cons, List.drop_zero])
                all_goals (try go_wp2_with fail)
                all_goals refine NoPanic.normal ?_
                all_goals (try go_wp2_with fail)
                go_roundw
                case rel => exact ⟨k + 1, hlt, by rw [HAD.out], by go_num, HB_wr.drew, HBV.out.drew, by rw [HFL.out]; exact HO.out.drew⟩
                case measure => simp [intOf] <;> omega
            · have HFL := Lib.hid (HYES.out (by rw [HBFO.out]; exact decide_eq_true (by omega)))
              clear HYES HNO HBFO
              have y_e_0 := cell_regrown e_0
              have y_e_1 := cell_regrown e_1
              have y_e_2 := cell_regrown e_2
              have y_e_3 := cell_regrown e_3
              clear e_0 e_1 e_2 e_3
              have y_f_0 := cell_regrown f_0
              have y_f_1 := cell_regrown f_1
              have y_f_2 := cell_regrown f_2
              have y_f_3 := cell_regrown f_3
              clear f_0 f_1 f_2 f_3
              have y_g := cell_regrown g_0
              refine wp_region_plan (C := fun w' => ∃ p : Regrown, w' = grow (redrawn wr p.d) p.os) (.q 0 (.q 1 (.q 2 (.q 3 (.q 4 (.q 5 (.q 6 (.q 7 (.q 8 (.q 9 (.q 10 (.q 11 (.q 12 (.q 13 (.q 14 (.q 15 (.q 16 (.q 17 (.q 18 (.q 19 (.q 20 (.q 21 (.q 22 (.q 23 (.q 24 (.q 25 (.q 26 (.q 27 (.q 28 (.q 29 (.q 30 (.q 31 (.q 32 (.q 33 (.q 34 (.q 35 (.q 36 (.q 37 (.q 38 (.done)))))))))))))))))))))))))))))))))))))))) 39 (by kernel_rfl) (by kernel_rfl) (grew_drew _) ?_
              repeat (any_goals (first | (go_big_quiet_skip; refine wpQuiet_nil ?_) | (go_big_quiet_want; go_big_quiet_op; go_big_quiet_on; refine wpQuiet_nil ?_) | ((with_reducible apply q_split); exact rfl; intro q hq; cases q <;> (rw [hq]; (try first | replace hq := bnot_t hq | replace hq := bnot_f hq); (try first | replace hq := of_decide_eq_true hq | replace hq := of_decide_eq_false hq | replace hq := eq_of_beq hq); (try first | replace hq := Int.not_lt.1 hq | replace hq := Int.not_le.1 hq | replace hq := Nat.not_lt.1 hq | replace hq := Nat.not_le.1 hq); try (exfalso; omega))) | (refine plan_q rfl rfl ?_)))
              clear y_e_0 y_e_1 y_e_2 y_e_3
              clear y_f_0 y_f_1 y_f_2 y_f_3
              clear y_g
              all_goals refine plan_done ?_
              all_goals (try simp only [List.drop_succ_cons, List.drop_zero])
              all_goals (try go_wp2_with fail)
              all_goals refine NoPanic.normal ?_
              obtain ⟨wd, hW_wd⟩ : ∃ W, wr.drew = W := ⟨_, rfl⟩
              first | rw [hW_wd] | rw [show ({ heap := wr.heap, tape := wr.tape, drawn := wr.drawn + 1, os := wr.os, output := wr.output } : World) = wd from hW_wd]
              replace g_0 := cell_drew g_0
              have HB_wd : Below w.heap.size w wr.drew := HB_wr.drew
              have HBVd : Below V.heap.size V wr.drew := HBV.out.drew
              replace HO := Lib.hid HO.out.drew
              rw [hW_wd] at HO g_0 HB_wd HBVd
              clear hW_wd
              have HOX := Lib.hid (HO.out.alloc (.cells #[.int .i64 (x : Int)] 3))
              have HSX : Hid (Sl (wd.alloc (.cells #[.int .i64 (x : Int)] 3)) 1 cN (some ⟨wd.heap.size, 0, none⟩) 1 1 [x]) := Sl.one (x := x) cN_len (Box.new wd (cN x) 3)
              have hsz : V.heap.size ≤ (wd.alloc (.cells #[.int .i64 (x : Int)] 3)).heap.size := by have := HBVd.size; simp; omega
              go_wp2_with (at_builtin; refine wpList_append_sl rfl _ _ 30 rfl V.heap.size 3 i2 _ 1 8 Try.underlying30 HI2.out HZ20.out HZ21.out HZ22.out rfl (by decide) cN_len cN_one _ pre rfl HOX.out (some ⟨wd.heap.size, 0, none⟩) 1 1 [x] rfl HSX.out (by unfold maxLen; omega) (by omega) hsz ?_)
              rintro v6 w6 ho6 hg6 hgr6
              have HBV6 := Lib.hid (show Below V.heap.size V w6 from (grew1 HBVd).trans (hg6 _ (Nat.le_refl _)))
              have HB_w6 : Below w.heap.size w w6 := (grew1 HB_wd).trans (hg6 _ hVs)
              have HO6 := Lib.hid ho6
              clear hg6 hgr6 ho6 HOX HSX hsz HO g_0
              go_wp2_with fail
              go_roundw
              case rel => exact ⟨k + 1, hlt, by rw [HAD.out], by go_num, HB_w6, HBV6.out, by rw [HFL.out]; exact HO6.out⟩
              case measure => simp [intOf] <;> omega
          · rw [Bool.true_or] at HAD
            go_wp2_with fail
            rcases Int.lt_trichotomy y3 z3 with hp | hp | hp
            · have HFL := Lib.hid (HNO.out (by rw [HBFO.out]; exact decide_eq_false (by omega)))
              have hp2 : (y3 == z3) = false := beq_eq_false_iff_ne.2 (by omega)
              clear HYES HNO HBFO
              have y_e_0 := cell_regrown e_0
              have y_e_1 := cell_regrown e_1
              have y_e_2 := cell_regrown e_2
              have y_e_3 := cell_regrown e_3
              clear e_0 e_1 e_2 e_3
              have y_f_0 := cell_regrown f_0
              have y_f_1 := cell_regrown f_1
              have y_f_2 := cell_regrown f_2
              have y_f_3 := cell_regrown f_3
              clear f_0 f_1 f_2 f_3
              have y_g := cell_regrown g_0
              refine wp_region_plan (C := fun w' => ∃ p : Regrown, w' = grow (redrawn wr p.d) p.os) (.q 0 (.q 1 (.q 2 (.q 3 (.q 4 (.q 5 (.q 6 (.q 7 (.q 8 (.q 9 (.q 10 (.q 11 (.q 12 (.q 13 (.q 14 (.q 15 (.q 16 (.q 17 (.q 18 (.q 19 (.q 20 (.q 21 (.q 22 (.q 23 (.q 24 (.q 25 (.q 26 (.q 27 (.q 28 (.q 29 (.q 30 (.q 31 (.q 32 (.q 33 (.q 34 (.q 35 (.q 36 (.q 37 (.q 38 (.done)))))))))))))))))))))))))))))))))))))))) 39 (by kernel_rfl) (by kernel_rfl) (grew_drew _) ?_
              repeat (any_goals (first | (go_big_quiet_skip; refine wpQuiet_nil ?_) | (go_big_quiet_want; go_big_quiet_op; go_big_quiet_on; refine wpQuiet_nil ?_) | ((with_reducible apply q_split); exact rfl; intro q hq; cases q <;> (rw [hq]; (try first | replace hq := bnot_t hq | replace hq := bnot_f hq); (try first | replace hq := of_decide_eq_true hq | replace hq := of_decide_eq_false hq | replace hq := eq_of_beq hq); (try first | replace hq := Int.not_lt.1 hq | replace hq := Int.not_le.1 hq | replace hq := Nat.not_lt.1 hq | replace hq := Nat.not_le.1 hq); try (exfalso; omega))) | (refine plan_q rfl rfl ?_)))
              clear y_e_0 y_e_1 y_e_2 y_e_3
              clear y_f_0 y_f_1 y_f_2 y_f_3
              clear y_g
              all_goals refine plan_done ?_
              all_goals (try simp only [List.drop_succ_cons, List.drop_zero])
              all_goals (try go_wp2_with fail)
              all_goals refine NoPanic.normal ?_
              all_goals (try go_wp2_with fail)
              go_roundw
              case rel => exact ⟨k + 1, hlt, by rw [HAD.out], by go_num, HB_wr.drew, HBV.out.drew, by rw [HFL.out]; exact HO.out.drew⟩
              case measure => simp [intOf] <;> omega
            · subst hp
              by_cases hx : (x : Int) < (i : Int)
              · have HFL := Lib.hid (HYES.out (by rw [HBFO.out]; exact decide_eq_true (by omega)))
                clear HYES HNO HBFO
                have y_e_0 := cell_regrown e_0
                have y_e_1 := cell_regrown e_1
                have y_e_2 := cell_regrown e_2
                have y_e_3 := cell_regrown e_3
                clear e_0 e_1 e_2 e_3
                have y_f_0 := cell_regrown f_0
                have y_f_1 := cell_regrown f_1
                have y_f_2 := cell_regrown f_2
                have y_f_3 := cell_regrown f_3
                clear f_0 f_1 f_2 f_3
                have y_g := cell_regrown g_0
                refine wp_region_plan (C := fun w' => ∃ p : Regrown, w' = grow (redrawn wr p.d) p.os) (.q 0 (.q 1 (.q 2 (.q 3 (.q 4 (.q 5 (.q 6 (.q 7 (.q 8 (.q 9 (.q 10 (.q 11 (.q 12 (.q 13 (.q 14 (.q 15 (.q 16 (.q 17 (.q 18 (.q 19 (.q 20 (.q 21 (.q 22 (.q 23 (.q 24 (.q 25 (.q 26 (.q 27 (.q 28 (.q 29 (.q 30 (.q 31 (.q 32 (.q 33 (.q 34 (.q 35 (.q 36 (.q 37 (.q 38 (.done)))))))))))))))))))))))))))))))))))))))) 39 (by kernel_rfl) (by kernel_rfl) (grew_drew _) ?_
                repeat (any_goals (first | (go_big_quiet_skip; refine wpQuiet_nil ?_) | (go_big_quiet_want; go_big_quiet_op; go_big_quiet_on; refine wpQuiet_nil ?_) | ((with_reducible apply q_split); exact rfl; intro q hq; cases q <;> (rw [hq]; (try first | replace hq := bnot_t hq | replace hq := bnot_f hq); (try first | replace hq := of_decide_eq_true hq | replace hq := of_decide_eq_false hq | replace hq := eq_of_beq hq); (try first | replace hq := Int.not_lt.1 hq | replace hq := Int.not_le.1 hq | replace hq := Nat.not_lt.1 hq | replace hq := Nat.not_le.1 hq); try (exfalso; omega))) | (refine plan_q rfl rfl ?_)))
                clear y_e_0 y_e_1 y_e_2 y_e_3
                clear y_f_0 y_f_1 y_f_2 y_f_3
                clear y_g
                all_goals refine plan_done ?_
                all_goals (try simp only [List.drop_succ_cons, List.drop_zero])
                all_goals (try go_wp2_with fail)
                all_goals refine NoPanic.normal ?_
                obtain ⟨wd, hW_wd⟩ : ∃ W, wr.drew = W := ⟨_, rfl⟩
                first | rw [hW_wd] | rw [show ({ heap := wr.heap, tape := wr.tape, drawn := wr.drawn + 1, os := wr.os, output := wr.output } : World) = wd from hW_wd]
                replace g_0 := cell_drew g_0
                have HB_wd : Below w.heap.size w wr.drew := HB_wr.drew
                have HBVd : Below V.heap.size V wr.drew := HBV.out.drew
                replace HO := Lib.hid HO.out.drew
                rw [hW_wd] at HO g_0 HB_wd HBVd
                clear hW_wd
                have HOX := Lib.hid (HO.out.alloc (.cells #[.int .i64 (x : Int)] 3))
                have HSX : Hid (Sl (wd.alloc (.cells #[.int .i64 (x : Int)] 3)) 1 cN (some ⟨wd.heap.size, 0, none⟩) 1 1 [x]) := Sl.one (x := x) cN_len (Box.new wd (cN x) 3)
                have hsz : V.heap.size ≤ (wd.alloc (.cells #[.int .i64 (x : Int)] 3)).heap.size := by have := HBVd.size; simp; omega
                go_wp2_with (at_builtin; refine wpList_append_sl rfl _ _ 30 rfl V.heap.size 3 i2 _ 1 8 Try.underlying30 HI2.out HZ20.out HZ21.out HZ22.out rfl (by decide) cN_len cN_one _ pre rfl HOX.out (some ⟨wd.heap.size, 0, none⟩) 1 1 [x] rfl HSX.out (by unfold maxLen; omega) (by omega) hsz ?_)
                rintro v6 w6 ho6 hg6 hgr6
                have HBV6 := Lib.hid (show Below V.heap.size V w6 from (grew1 HBVd).trans (hg6 _ (Nat.le_refl _)))
                have HB_w6 : Below w.heap.size w w6 := (grew1 HB_wd).trans (hg6 _ hVs)
                have HO6 := Lib.hid ho6
                clear hg6 hgr6 ho6 HOX HSX hsz HO g_0
                go_wp2_with fail
                go_roundw
                case rel => exact ⟨k + 1, hlt, by rw [HAD.out], by go_num, HB_w6, HBV6.out, by rw [HFL.out]; exact HO6.out⟩
                case measure => simp [intOf] <;> omega
              · have HFL := Lib.hid (HNO.out (by rw [HBFO.out]; exact decide_eq_false (by omega)))
                replace hx := Int.not_lt.1 hx
                clear HYES HNO HBFO
                have y_e_0 := cell_regrown e_0
                have y_e_1 := cell_regrown e_1
                have y_e_2 := cell_regrown e_2
                have y_e_3 := cell_regrown e_3
                clear e_0 e_1 e_2 e_3
                have y_f_0 := cell_regrown f_0
                have y_f_1 := cell_regrown f_1
                have y_f_2 := cell_regrown f_2
                have y_f_3 := cell_regrown f_3
                clear f_0 f_1 f_2 f_3
                have y_g := cell_regrown g_0
                refine wp_region_plan (C := fun w' => ∃ p : Regrown, w' = grow (redrawn wr p.d) p.os) (.q 0 (.q 1 (.q 2 (.q 3 (.q 4 (.q 5 (.q 6 (.q 7 (.q 8 (.q 9 (.q 10 (.q 11 (.q 12 (.q 13 (.q 14 (.q 15 (.q 16 (.q 17 (.q 18 (.q 19 (.q 20 (.q 21 (.q 22 (.q 23 (.q 24 (.q 25 (.q 26 (.q 27 (.q 28 (.q 29 (.q 30 (.q 31 (.q 32 (.q 33 (.q 34 (.q 35 (.q 36 (.q 37 (.q 38 (.done)))))))))))))))))))))))))))))))))))))))) 39 (by kernel_rfl) (by kernel_rfl) (grew_drew _) ?_
                repeat (any_goals (first | (go_big_quiet_skip; refine wpQuiet_nil ?_) | (go_big_quiet_want; go_big_quiet_op; go_big_quiet_on; refine wpQuiet_nil ?_) | ((with_reducible apply q_split); exact rfl; intro q hq; cases q <;> (rw [hq]; (try first | replace hq := bnot_t hq | replace hq := bnot_f hq); (try first | replace hq := of_decide_eq_true hq | replace hq := of_decide_eq_false hq | replace hq := eq_of_beq hq); (try first | replace hq := Int.not_lt.1 hq | replace hq := Int.not_le.1 hq | replace hq := Nat.not_lt.1 hq | replace hq := Nat.not_le.1 hq); try (exfalso; omega))) | (refine plan_q rfl rfl ?_)))
                clear y_e_0 y_e_1 y_e_2 y_e_3
                clear y_f_0 y_f_1 y_f_2 y_f_3
                clear y_g
                all_goals refine plan_done ?_
                all_goals (try simp only [List.drop_succ_cons, List.drop_zero])
                all_goals (try go_wp2_with fail)
                all_goals refine NoPanic.normal ?_
                all_goals (try go_wp2_with fail)
                go_roundw
                case rel => exact ⟨k + 1, hlt, by rw [HAD.out], by go_num, HB_wr.drew, HBV.out.drew, by rw [HFL.out]; exact HO.out.drew⟩
                case measure => simp [intOf] <;> omega
            · have HFL := Lib.hid (HYES.out (by rw [HBFO.out]; exact decide_eq_true (by omega)))
              clear HYES HNO HBFO
              have y_e_0 := cell_regrown e_0
              have y_e_1 := cell_regrown e_1
              have y_e_2 := cell_regrown e_2
              have y_e_3 := cell_regrown e_3
              clear e_0 e_1 e_2 e_3
              have y_f_0 := cell_regrown f_0
              have y_f_1 := cell_regrown f_1
              have y_f_2 := cell_regrown f_2
              have y_f_3 := cell_regrown f_3
              clear f_0 f_1 f_2 f_3
              have y_g := cell_regrown g_0
              refine wp_region_plan (C := fun w' => ∃ p : Regrown, w' = grow (redrawn wr p.d) p.os) (.q 0 (.q 1 (.q 2 (.q 3 (.q 4 (.q 5 (.q 6 (.q 7 (.q 8 (.q 9 (.q 10 (.q 11 (.q 12 (.q 13 (.q 14 (.q 15 (.q 16 (.q 17 (.q 18 (.q 19 (.q 20 (.q 21 (.q 22 (.q 23 (.q 24 (.q 25 (.q 26 (.q 27 (.q 28 (.q 29 (.q 30 (.q 31 (.q 32 (.q 33 (.q 34 (.q 35 (.q 36 (.q 37 (.q 38 (.done)))))))))))))))))))))))))))))))))))))))) 39 (by kernel_rfl) (by kernel_rfl) (grew_drew _) ?_
              repeat (any_goals (first | (go_big_quiet_skip; refine wpQuiet_nil ?_) | (go_big_quiet_want; go_big_quiet_op; go_big_quiet_on; refine wpQuiet_nil ?_) | ((with_reducible apply q_split); exact rfl; intro q hq; cases q <;> (rw [hq]; (try first | replace hq := bnot_t hq | replace hq := bnot_f hq); (try first | replace hq := of_decide_eq_true hq | replace hq := of_decide_eq_false hq | replace hq := eq_of_beq hq); (try first | replace hq := Int.not_lt.1 hq | replace hq := Int.not_le.1 hq | replace hq := Nat.not_lt.1 hq | replace hq := Nat.not_le.1 hq); try (exfalso; omega))) | (refine plan_q rfl rfl ?_)))
              clear y_e_0 y_e_1 y_e_2 y_e_3
              clear y_f_0 y_f_1 y_f_2 y_f_3
              clear y_g
              all_goals refine plan_done ?_
              all_goals (try simp only [List.drop_succ_cons, List.drop_zero])
              all_goals (try go_wp2_with fail)
              all_goals refine NoPanic.normal ?_
              obtain ⟨wd, hW_wd⟩ : ∃ W, wr.drew = W := ⟨_, rfl⟩
              first | rw [hW_wd] | rw [show ({ heap := wr.heap, tape := wr.tape, drawn := wr.drawn + 1, os := wr.os, output := wr.output } : World) = wd from hW_wd]
              replace g_0 := cell_drew g_0
              have HB_wd : Below w.heap.size w wr.drew := HB_wr.drew
              have HBVd : Below V.heap.size V wr.drew := HBV.out.drew
              replace HO := Lib.hid HO.out.drew
              rw [hW_wd] at HO g_0 HB_wd HBVd
              clear hW_wd
              have HOX := Lib.hid (HO.out.alloc (.cells #[.int .i64 (x : Int)] 3))
              have HSX : Hid (Sl (wd.alloc (.cells #[.int .i64 (x : Int)] 3)) 1 cN (some ⟨wd.heap.size, 0, none⟩) 1 1 [x]) := Sl.one (x := x) cN_len (Box.new wd (cN x) 3)
              have hsz : V.heap.size ≤ (wd.alloc (.cells #[.int .i64 (x : Int)] 3)).heap.size := by have := HBVd.size; simp; omega
              go_wp2_with (at_builtin; refine wpList_append_sl rfl _ _ 30 rfl V.heap.size 3 i2 _ 1 8 Try.underlying30 HI2.out HZ20.out HZ21.out HZ22.out rfl (by decide) cN_len cN_one _ pre rfl HOX.out (some ⟨wd.heap.size, 0, none⟩) 1 1 [x] rfl HSX.out (by unfold maxLen; omega) (by omega) hsz ?_)
              rintro v6 w6 ho6 hg6 hgr6
              have HBV6 := Lib.hid (show Below V.heap.size V w6 from (grew1 HBVd).trans (hg6 _ (Nat.le_refl _)))
              have HB_w6 : Below w.heap.size w w6 := (grew1 HB_wd).trans (hg6 _ hVs)
              have HO6 := Lib.hid ho6
              clear hg6 hgr6 ho6 HOX HSX hsz HO g_0
              go_wp2_with fail
              go_roundw
              case rel => exact ⟨k + 1, hlt, by rw [HAD.out], by go_num, HB_w6, HBV6.out, by rw [HFL.out]; exact HO6.out⟩
              case measure => simp [intOf] <;> omega
        · obtain rfl : k = A.length := by omega
          rw [List.take_length] at HO ⊢
          by_cases hiA : i ∈ A
          · rw [decide_eq_true hiA]
            have HBF2 := Lib.hid (HBF.out.trans (HBV.out.mono HBF.out.size))
            clear hiA HO
            go_wp2_with fail
            go_roundw
            case rel => exact ⟨i + 1, hil, by go_num, rfl, HB_wr, HBF2⟩
            case measure => simp [intOf] <;> omega
          · rw [decide_eq_false hiA]
            have HONE := Lib.hid (HAI.out.one hil hiA)
            have HOUT := Lib.hid (HAI.out.out i hil hiA)
            have HFR := Lib.hid ((HAI.out.rise).filter (fun x => befB l x i))
            have hfl : (A.filter (fun x => befB l x i)).length ≤ A.length := List.length_filter_le _ _
            obtain ⟨ow, cw, rfl, hsw⟩ := HO.out.sl cN_len
            have HW := Lib.hid hsw
            clear hsw HO hiA
            generalize A.filter (fun x => befB l x i) = F at *
            go_wp2_with fail
            refine (with_k _ HW.out (by omega) HFR.out (by omega)).mono ?_
            rintro e wg ⟨og, cg, rfl, hg, hb_wg⟩
            have HB_wg : Below w.heap.size w wg := by first | exact after0 HB_wr hb_wg | exact after1 HB_wr hb_wg | exact after2 HB_wr hb_wg | exact after3 HB_wr hb_wg | exact after4 HB_wr hb_wg | exact after5 HB_wr hb_wg
            have HG := Lib.hid hg
            have HBG := Lib.hid (HBV.out.trans (hb_wg.mono HBV.out.size))
            clear hg HW HFR
            obtain ⟨hn1, hn2, hn3⟩ := HONE.out
            have HN1 := Lib.hid hn1
            have HN2 := Lib.hid hn2
            clear hn1 hn2 HONE
            generalize srtN (F ++ [i]) = G at *
            go_wp2_with fail
            refine (some_k _ (HSV.out.below HBG.out) HG.out HN2.out (by omega) HN1.out).mono ?_
            rintro e wh ⟨oh, ch, rfl, hh, hb_wh⟩
            have HB_wh : Below w.heap.size w wh := by first | exact after0 HB_wg hb_wh | exact after1 HB_wg hb_wh | exact after2 HB_wg hb_wh | exact after3 HB_wg hb_wh | exact after4 HB_wg hb_wh | exact after5 HB_wg hb_wh
            have HH := Lib.hid hh
            have HBH := Lib.hid (HBG.out.trans (hb_wh.mono HBG.out.size))
            clear hh HG
            go_wp2_with fail
            refine (Plan_p _ HH.out HVS.out.1 HVS.out.2 HN2.out (by omega)).mono ?_
            rintro e wi ⟨oi, ni, ci, rfl, hi2, hb_wi⟩
            have HB_wi : Below w.heap.size w wi := by first | exact after0 HB_wh hb_wi | exact after1 HB_wh hb_wi | exact after2 HB_wh hb_wi | exact after3 HB_wh hb_wi | exact after4 HB_wh hb_wi | exact after5 HB_wh hb_wi
            obtain rfl := hi2.len
            have HPI := Lib.hid hi2
            have HBI := Lib.hid (HBH.out.trans (hb_wi.mono HBH.out.size))
            replace HH := Lib.hid (HH.out.below hb_wi)
            clear hi2
            go_wp2_with fail
            refine (Late_p _ HH.out HPI.out HVS.out.1 HVS.out.2 HN2.out (by omega)).mono ?_
            rintro e wj ⟨oj, nj, cj, rfl, hj2, hb_wj⟩
            have HB_wj : Below w.heap.size w wj := by first | exact after0 HB_wi hb_wj | exact after1 HB_wi hb_wj | exact after2 HB_wi hb_wj | exact after3 HB_wi hb_wj | exact after4 HB_wi hb_wj | exact after5 HB_wi hb_wj
            obtain rfl := hj2.len
            have HBJ := Lib.hid (HBF.out.trans ((HBI.out.trans (hb_wj.mono HBI.out.size)).mono HBF.out.size))
            have hla : 0 < ((lateF (pickJ l G) (planF (pickJ l G) f)).length : Int) := by have := List.length_pos_iff.2 HOUT.out; omega
            clear hj2 HH HPI HOUT HBI HBH HBG hb_wg hb_wh hb_wi hb_wj
            generalize (lateF (pickJ l G) (planF (pickJ l G) f)).length = la at *
            generalize (planF (pickJ l G) f).length = lb at *
            generalize (pickJ l G).length = lc at *
            go_wp2_with fail
            go_roundw
            case rel => exact ⟨i + 1, hil, by go_num, by first | rfl | (simp; omega), HB_wj, HBJ⟩
            case measure => simp [intOf] <;> omega
    · obtain rfl : i = l.length := by omega
      go_wp2_with fail
      all_goals try (exfalso; omega)
      go_ret
      exact ⟨rfl, HB_wr⟩
end Go.Proofs.Ytheioedggjbphaa
