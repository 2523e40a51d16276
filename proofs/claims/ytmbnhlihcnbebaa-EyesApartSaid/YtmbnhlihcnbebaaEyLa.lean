/-
  The law EyesApart.
-/
import Derived.Test.YtmbnhlihcnbebaaEyR
import Derived.Test.YtmbnhlihcnbebaaEyTa
import Derived.Test.YtmbnhlihcnbebaaEyJo
set_option linter.unusedVariables false
namespace Go.Proofs.Ytmbnhlihcnbebaa
open Go Go.RowKit Ey Sk Go.Sort

theorem OwnL.slS {α : Type} {enc : α → List Value} {w : World} {base e k n c : Nat} {o : Option Addr} {ys : List α} (hk : ∀ x, (enc x).length = k) (h : OwnL w base e k enc (.slice o n c) ys) : Sl w k enc o n c ys := by
  obtain ⟨ao, cap, he, hs⟩ := h.sl hk
  simp only [Value.slice.injEq] at he
  obtain ⟨rfl, rfl, rfl⟩ := he
  exact hs

set_option maxRecDepth 100000 in
set_option maxHeartbeats 8000000 in
theorem apart_walk (hko : KeysOk) (ao : Option Addr) (n cap : Nat) (l : List Ac) (x : Int) (w : World) (hs : Sl w 8 cA ao n cap l) (hx : (Lit.int .u8 x).wf = true) :
    Calls Try.prog 5 #[.slice ao n cap, .int .u8 x] w (Ret w (.bool true)) := by
  obtain rfl := hs.len
  have hle := hs.le
  have hcap := hs.max
  unfold maxLen at hcap
  have HS := Lib.hid hs
  have HKO := Lib.hid hko
  have HB_w : Below w.heap.size w w := Below.refl _ _
  clear hs hko
  obtain ⟨i0, hi, hz0, hz1, hz2⟩ := info_parts info_act
  have HI := Lib.hid hi
  have HZ0 := Lib.hid hz0
  have HZ1 := Lib.hid hz1
  have HZ2 := Lib.hid hz2
  clear hi hz0 hz1 hz2
  obtain ⟨i1, hi, hz0, hz1, hz2⟩ := info_parts info_errno
  have HJ := Lib.hid hi
  have HJ0 := Lib.hid hz0
  have HJ1 := Lib.hid hz1
  have HJ2 := Lib.hid hz2
  have hx2 : 0 ≤ x ∧ x ≤ 255 := by simpa [Lit.wf, IntKind.min, IntKind.max, IntKind.bits, IntKind.signed] using hx
  clear hx hi hz0 hz1 hz2
  go_enter Try.func5, Try.ntmps5
  go_wp2_with fail
  refine (head_any HKO.out _).mono ?_
  rintro e wa ⟨rfl, hb_wa⟩
  have HB_wa : Below w.heap.size w wa := by first | exact after0 HB_w hb_wa | exact after1 HB_w hb_wa | exact after2 HB_w hb_wa | exact after3 HB_w hb_wa | exact after4 HB_w hb_wa | exact after5 HB_w hb_wa
  by_cases hl2 : (l.length : Int) < 2
  ·
    go_wp2_with fail
    all_goals try (exfalso; omega)
    go_ret
    exact ⟨rfl, HB_wa⟩
  replace hl2 := Int.not_lt.1 hl2
  by_cases hl : 200 < (l.length : Int)
  ·
    go_wp2_with fail
    all_goals try (exfalso; omega)
    go_ret
    exact ⟨rfl, HB_wa⟩
  replace hl := Int.not_lt.1 hl
  obtain ⟨K, hK, hlt⟩ : ∃ K : Nat, x % ((l.length : Int) - 1) = (K : Int) ∧ K + 1 < l.length := by
    have k1 := Int.emod_nonneg x (show ((l.length : Int) - 1) ≠ 0 by omega)
    have k2 := Int.emod_lt_of_pos x (show (0 : Int) < (l.length : Int) - 1 by omega)
    exact ⟨(x % ((l.length : Int) - 1)).toNat, by omega, by omega⟩
  have hnz : ¬ ((l.length : Int) - 1 = 0) := by omega
  have HSA := Lib.hid (HS.out.below HB_wa)
  have HO0 := Lib.hid (show OwnL (wa.alloc (.cells #[] 37)) wa.heap.size 37 8 cA (.slice (some ⟨wa.heap.size, 0, none⟩) 0 0) [] from OwnL.made (Nat.le_refl _))
  go_wp2_with (at_builtin; refine wpList_append_sl rfl _ _ 22 rfl wa.heap.size 37 i0 _ 8 64 Try.underlying22 HI.out HZ0.out HZ1.out HZ2.out rfl (by decide) cA_len cA_one _ [] rfl HO0.out ao l.length cap l rfl (by first | exact HSA.out.below (grew1 HB_wa) | exact HSA.out.below (grew1 (Below.refl _ _))) (by unfold maxLen; simp; omega) (by simp; omega) (by simp) ?_)
  rintro v_w1 w1 ho hg hgr
  have HO_w1 := Lib.hid ho
  have HB_w1 : Below w.heap.size w w1 := (grew1 HB_wa).trans (hg _ HB_wa.size)
  have hb_w1 := Lib.hid (show Below wa.heap.size wa w1 from (grew1 (Below.refl _ _)).trans (hg _ (Nat.le_refl _)))
  have hz_w1 : wa.heap.size ≤ w1.heap.size := hb_w1.out.size
  clear ho hg hgr HO0
  clear hK hnz
  obtain ⟨g, cg, rfl, hg1, hg2⟩ := OwnL.form' HO_w1.out (by omega)
  have hwg : w.heap.size ≤ g := Nat.le_trans HB_wa.size hg1
  have hka : l[K]? = some l[K] := List.getElem?_eq_getElem (by omega)
  have hkb : l[K + 1]? = some l[K + 1] := List.getElem?_eq_getElem hlt
  obtain ⟨-, -, -, e_3, -⟩ := OwnL.cellsA HO_w1.out hka
  obtain ⟨-, -, -, f_3, -⟩ := OwnL.cellsA HO_w1.out hkb
  have f_4 := OwnL.frozenG HO_w1.out ((K + 1) * 8 + 3)
  have hst := OwnL.setG cA_len HO_w1.out hlt (i := 3) (by decide) (u := .int .i64 l[K].time) (a := { l[K + 1] with time := l[K].time }) rfl
  obtain ⟨M, a, b, hM, hML, hMa, hMb, hab⟩ := ap_parts hlt
  have HO2 := Lib.hid hst.1
  have HG2 := Lib.hid hst.2
  dsimp only at HO2 HG2
  rw [hM] at HO2
  clear hst hM hka hkb
  generalize l[K].time = t0 at *
  generalize l[K + 1].time = t1 at *
  go_wp2_with fail
  obtain ⟨W2, hW2⟩ : ∃ X, w1.setCell ⟨g, (K + 1) * 8 + 3, none⟩ (.int .i64 t0) = X := ⟨_, rfl⟩
  rw [hW2] at HO2 HG2 ⊢
  have HB_W2 : Below w.heap.size w W2 := HB_w1.grown HG2.out HB_w1.size (fun j hj => by cases hj; exact hwg)
  have hgW2 : g < W2.heap.size := Nat.lt_of_lt_of_le hg2 HG2.out.size
  clear hW2 e_3 f_3 f_4 HO_w1 HG2 HSA
  refine (replay_own HKO.out _ _ _ M _ (HO2.out.slG cA_len) (by omega)).mono ?_
  rintro e wb ⟨v1, v2, rfl, ho1, ho2, hb_wb⟩
  have HB_wb : Below w.heap.size w wb := by first | exact after0 HB_W2 hb_wb | exact after1 HB_W2 hb_wb | exact after2 HB_W2 hb_wb | exact after3 HB_W2 hb_wb | exact after4 HB_W2 hb_wb | exact after5 HB_W2 hb_wb
  obtain ⟨o1, c1, rfl, -⟩ := ho1.sl cD_len
  obtain ⟨o2, c2, rfl, -⟩ := ho2.sl cI_len
  have H1 := Lib.hid ho1
  have H2 := Lib.hid ho2
  have HO3 := Lib.hid (HO2.out.below hb_wb)
  have hcl := replS_came M
  have HSW := Lib.hid (fun h => apart2 hMa hMb (by omega) hab h)
  clear hab
  have HMA := Lib.hid hMa
  have HMB := Lib.hid hMb
  clear ho1 ho2 HO2 hMa hMb
  obtain ⟨-, e_0, -⟩ := OwnL.cellsA HO3.out HMA.out
  obtain ⟨-, e_1, -⟩ := OwnL.cellsA HO3.out HMB.out
  go_wp2_with fail
  have hcl2 : ((replS M).came.length : Int) = (l.length : Int) := by omega
  have hK1 : K + 1 < M.length := by omega
  by_cases hd : a.danger = b.danger
  · rw [hd] at e_0
    have y_e_0 := cell_regrown e_0
    have y_e_1 := cell_regrown e_1
    clear e_0 e_1
    refine wp_region_plan (C := fun w' => ∃ p : Regrown, w' = grow (redrawn wb p.d) p.os) (.q 0 (.q 1 (.q 2 (.q 3 (.q 4 (.q 5 (.q 6 (.q 7 (.q 8 (.q 9 (.q 10 (.q 11 (.q 12 (.q 13 (.q 14 (.q 15 (.q 16 (.q 17 (.q 18 (.done)))))))))))))))))))) 19 (by kernel_rfl) (by kernel_rfl) (grew_drew _) ?_
    repeat (any_goals (first | (go_big_quiet_skip; refine wpQuiet_nil ?_) | (go_big_quiet_want; go_big_quiet_op; go_big_quiet_on; refine wpQuiet_nil ?_) | ((with_reducible apply q_split); exact rfl; intro q hq; cases q <;> (rw [hq]; (try first | replace hq := bnot_t hq | replace hq := bnot_f hq); (try first | replace hq := of_decide_eq_true hq | replace hq := of_decide_eq_false hq | replace hq := eq_of_beq hq); (try first | replace hq := Int.not_lt.1 hq | replace hq := Int.not_le.1 hq | replace hq := Nat.not_lt.1 hq | replace hq := Nat.not_le.1 hq); try (exfalso; omega))) | (refine plan_q rfl rfl ?_)))
    clear y_e_0 y_e_1
    all_goals refine plan_done ?_
    all_goals (try simp only [List.drop_succ_cons, List.drop_zero])
    all_goals (try go_wp2_with fail)
    all_goals refine NoPanic.normal ?_
    all_goals (try go_wp2_with fail)
    go_ret
    exact ⟨rfl, HB_wb.drew⟩
  have hd2 : (a.danger == b.danger) = false := beq_eq_false_iff_ne.2 hd
  replace HSW := Lib.hid (HSW.out hd)
  clear hd
  have y_e_0 := cell_regrown e_0
  have y_e_1 := cell_regrown e_1
  clear e_0 e_1
  refine wp_region_plan (C := fun w' => ∃ p : Regrown, w' = grow (redrawn wb p.d) p.os) (.q 0 (.q 1 (.q 2 (.q 3 (.q 4 (.q 5 (.q 6 (.q 7 (.q 8 (.q 9 (.q 10 (.q 11 (.q 12 (.q 13 (.q 14 (.q 15 (.q 16 (.q 17 (.q 18 (.done)))))))))))))))))))) 19 (by kernel_rfl) (by kernel_rfl) (grew_drew _) ?_
  repeat (any_goals (first | (go_big_quiet_skip; refine wpQuiet_nil ?_) | (go_big_quiet_want; go_big_quiet_op; go_big_quiet_on; refine wpQuiet_nil ?_) | ((with_reducible apply q_split); exact rfl; intro q hq; cases q <;> (rw [hq]; (try first | replace hq := bnot_t hq | replace hq := bnot_f hq); (try first | replace hq := of_decide_eq_true hq | replace hq := of_decide_eq_false hq | replace hq := eq_of_beq hq); (try first | replace hq := Int.not_lt.1 hq | replace hq := Int.not_le.1 hq | replace hq := Nat.not_lt.1 hq | replace hq := Nat.not_le.1 hq); try (exfalso; omega))) | (refine plan_q rfl rfl ?_)))
  clear y_e_0 y_e_1
  all_goals refine plan_done ?_
  all_goals (try simp only [List.drop_succ_cons, List.drop_zero])
  all_goals (try go_wp2_with fail)
  all_goals refine NoPanic.normal ?_
  all_goals (try go_wp2_with fail)
  obtain ⟨V, hV⟩ : ∃ V, wb.drew = V := ⟨_, rfl⟩
  obtain ⟨W, hW⟩ : ∃ W, V.drew = W := ⟨_, rfl⟩
  have HB_W : Below w.heap.size w W := hW ▸ hV ▸ HB_wb.drew.drew
  have HOW := Lib.hid (show OwnL W wa.heap.size 37 8 cA (.slice (some ⟨g, 0, none⟩) l.length cg) M from hW ▸ hV ▸ HO3.out.drew.drew)
  have HX1 := Lib.hid (show OwnL W W2.heap.size 33 12 cD (.slice o1 (replS M).L.length c1) (replS M).L from hW ▸ hV ▸ H1.out.drew.drew)
  have HX2 := Lib.hid (show OwnL W W2.heap.size 25 1 cI (.slice o2 (replS M).came.length c2) (replS M).came from hW ▸ hV ▸ H2.out.drew.drew)
  clear H1 H2 HO3
  rw [show { heap := wb.heap, tape := wb.tape, drawn := wb.drawn + 1, os := wb.os, output := wb.output } = V from hV]
  clear hV
  have hp1 := OwnL.putG cA_len HOW.out (j := K) (by omega) b
  have HP1 := Lib.hid hp1.1
  have HG1 := Lib.hid hp1.2
  have hp2 := OwnL.putG cA_len HP1.out (j := K + 1) (by rw [List.length_set]; omega) a
  have HP2 := Lib.hid (show OwnL _ wa.heap.size 37 8 cA (.slice (some ⟨g, 0, none⟩) l.length cg) (sw M K a b) from hp2.1)
  have HG2 := Lib.hid hp2.2
  have HT1 := Lib.hid (OwnL.thereG cA_len HOW.out (j := K) (by omega))
  have HT2 := Lib.hid (OwnL.thereG cA_len HP1.out (j := K + 1) (by rw [List.length_set]; omega))
  obtain ⟨e_0, e_1, e_2, e_3, e_4, e_5, e_6, e_7⟩ := OwnL.cellsA HOW.out HMA.out
  obtain ⟨f_0, f_1, f_2, f_3, f_4, f_5, f_6, f_7⟩ := OwnL.cellsA HOW.out HMB.out
  clear hp1 hp2
  obtain ⟨W3, hW3⟩ : ∃ X, W.setCells g (K * 8) (cA b) = X := ⟨_, rfl⟩
  rw [hW3] at HP1 HG1 HT2 HP2 HG2
  obtain ⟨W4, hW4⟩ : ∃ X, W3.setCells g ((K + 1) * 8) (cA a) = X := ⟨_, rfl⟩
  rw [hW4] at HP2 HG2
  have HB_W4 : Below w.heap.size w W4 := (HB_W.grown HG1.out HB_W.size (fun j hj => by cases hj; exact hwg)).grown HG2.out (Nat.le_trans HB_W.size HG1.out.size) (fun j hj => by cases hj; exact hwg)
  have HY1 := Lib.hid (own_past (own_past HX1.out HG1.out hgW2) HG2.out hgW2)
  have HY2 := Lib.hid (own_past (own_past HX2.out HG1.out hgW2) HG2.out hgW2)
  have HW3 := Lib.hid hW3
  have HW4 := Lib.hid hW4
  have y_n : Nonempty (Wc (fun W => True)) := ⟨⟨W, trivial⟩⟩
  clear HX1 HX2 HP1 HG1 HG2 hW3 hW4 HOW HMA HMB
  refine wp_region_plan (C := fun w' => ∃ p : Wc (fun W => True), w' = p.w) (.q 0 (.q 1 (.q 2 (.q 3 (.q 4 (.q 5 (.q 6 (.q 7 (.q 8 (.q 10 (.q 11 (.q 12 (.two 9 (.e 13 (.q 14 (.e 15 (.q 16 (.e 17 (.done)))))) 13 (.e 9 (.q 14 (.e 15 (.q 16 (.e 17 (.done))))))))))))))))))) 18 (by kernel_rfl) (by kernel_rfl) ⟨⟨_, ?_⟩, rfl⟩ ?_
  · trivial
  repeat (any_goals (first | (go_big_quiet_skip; refine wpQuiet_nil ?_) | (go_big_quiet_want; go_big_quiet_op; go_big_quiet_on; refine wpQuiet_nil ?_) | ((with_reducible apply q_split); exact rfl; intro q hq; cases q <;> (rw [hq]; (try first | replace hq := bnot_t hq | replace hq := bnot_f hq); (try first | replace hq := of_decide_eq_true hq | replace hq := of_decide_eq_false hq | replace hq := eq_of_beq hq); (try first | replace hq := Int.not_lt.1 hq | replace hq := Int.not_le.1 hq | replace hq := Nat.not_lt.1 hq | replace hq := Nat.not_le.1 hq); try (exfalso; omega))) | (refine plan_q rfl rfl ?_)))
  rw [show { heap := V.heap, tape := V.tape, drawn := V.drawn + 1, os := V.os, output := V.output } = W from hW]
  clear hW
  refine plan_two rfl rfl ?_ ?_
  all_goals
    go_wp2_with fail
    refine MixPost.intro ⟨⟨_, trivial⟩, rfl⟩ ?_
    repeat (any_goals (first | (go_big_quiet_skip; refine wpQuiet_nil ?_) | (go_big_quiet_want; go_big_quiet_op; go_big_quiet_on; refine wpQuiet_nil ?_) | ((with_reducible apply q_split); exact rfl; intro q hq; cases q <;> (rw [hq]; (try first | replace hq := bnot_t hq | replace hq := bnot_f hq); (try first | replace hq := of_decide_eq_true hq | replace hq := of_decide_eq_false hq | replace hq := eq_of_beq hq); (try first | replace hq := Int.not_lt.1 hq | replace hq := Int.not_le.1 hq | replace hq := Nat.not_lt.1 hq | replace hq := Nat.not_le.1 hq); try (exfalso; omega))) | (refine plan_q rfl rfl ?_)))
    refine plan_e rfl ?_
    go_wp2_with fail
    refine MixPost.intro ⟨⟨_, trivial⟩, rfl⟩ ?_
    repeat (any_goals (first | (go_big_quiet_skip; refine wpQuiet_nil ?_) | (go_big_quiet_want; go_big_quiet_op; go_big_quiet_on; refine wpQuiet_nil ?_) | ((with_reducible apply q_split); exact rfl; intro q hq; cases q <;> (rw [hq]; (try first | replace hq := bnot_t hq | replace hq := bnot_f hq); (try first | replace hq := of_decide_eq_true hq | replace hq := of_decide_eq_false hq | replace hq := eq_of_beq hq); (try first | replace hq := Int.not_lt.1 hq | replace hq := Int.not_le.1 hq | replace hq := Nat.not_lt.1 hq | replace hq := Nat.not_le.1 hq); try (exfalso; omega))) | (refine plan_q rfl rfl ?_)))
    refine plan_e rfl ?_
    refine wpList_store_mid rfl 37 _ _ rfl g (K * 8) (cA b).toArray rfl rfl HT1.out size_act (cA_all b) ?_
    rw [show W.setCells g (K * 8) (cA b).toArray.toList = W3 from HW3.out]
    go_wp2_with fail
    refine MixPost.intro ⟨⟨_, trivial⟩, rfl⟩ ?_
    repeat (any_goals (first | (go_big_quiet_skip; refine wpQuiet_nil ?_) | (go_big_quiet_want; go_big_quiet_op; go_big_quiet_on; refine wpQuiet_nil ?_) | ((with_reducible apply q_split); exact rfl; intro q hq; cases q <;> (rw [hq]; (try first | replace hq := bnot_t hq | replace hq := bnot_f hq); (try first | replace hq := of_decide_eq_true hq | replace hq := of_decide_eq_false hq | replace hq := eq_of_beq hq); (try first | replace hq := Int.not_lt.1 hq | replace hq := Int.not_le.1 hq | replace hq := Nat.not_lt.1 hq | replace hq := Nat.not_le.1 hq); try (exfalso; omega))) | (refine plan_q rfl rfl ?_)))
    refine plan_e rfl ?_
    refine wpList_store_mid rfl 37 _ _ rfl g ((K + 1) * 8) (cA a).toArray rfl rfl HT2.out size_act (cA_all a) ?_
    rw [show W3.setCells g ((K + 1) * 8) (cA a).toArray.toList = W4 from HW4.out]
    go_wp2_with fail
    refine MixPost.intro ⟨⟨_, trivial⟩, rfl⟩ ?_
    refine plan_done ?_
    try simp only [List.drop_succ_cons, List.drop_zero]
    clear e_0 e_1 e_2 e_3 e_4 e_5 e_6 e_7 f_0 f_1 f_2 f_3 f_4 f_5 f_6 f_7 HW3 HW4 y_n HT1 HT2
    go_wp2_with fail
    refine NoPanic.normal ?_
    go_wp2_with fail
    refine (replay_own HKO.out _ _ _ (sw M K a b) _ (HP2.out.slG cA_len) (by rw [sw_len]; omega)).mono ?_
    rintro e wc ⟨p1, p2, rfl, ho3, ho4, hb_wc⟩
    have HB_wc : Below w.heap.size w wc := by first | exact after0 HB_W4 hb_wc | exact after1 HB_W4 hb_wc | exact after2 HB_W4 hb_wc | exact after3 HB_W4 hb_wc | exact after4 HB_W4 hb_wc | exact after5 HB_W4 hb_wc
    obtain ⟨o3, c3, rfl, hs3⟩ := ho3.sl cD_len
    obtain ⟨o4, c4, rfl, hs4⟩ := ho4.sl cI_len
    have H1 := Lib.hid ((OwnL.slS cD_len HY1.out).below hb_wc)
    have H2 := Lib.hid ((OwnL.slS cI_len HY2.out).below hb_wc)
    have H3 := Lib.hid hs3
    have H4 := Lib.hid hs4
    have hcm := replS_came (sw M K a b)
    rw [sw_len, hML] at hcm
    rw [hML] at hcl
    rw [hcl] at H2
    rw [hcm] at H4 ⊢
    clear ho3 ho4 hs3 hs4 HY1 HY2 HP2 hcl2
    obtain ⟨he1, he2⟩ := HSW.out
    clear HSW
    generalize (replS (sw M K a b)).came = cn at *
    generalize (replS (sw M K a b)).L = L2 at *
    generalize (replS M).came = cm at *
    generalize (replS M).L = L1 at *
    subst he1
    have hkx : cm[K]? = some cm[K] := List.getElem?_eq_getElem (by omega)
    have hky : cm[K + 1]? = some cm[K + 1] := List.getElem?_eq_getElem (by omega)
    generalize cm[K] = u1 at *
    generalize cm[K + 1] = u2 at *
    have HE3 := Lib.hid (he2 u1 u2 hkx hky)
    clear he2
    have HO0 := Lib.hid (show OwnL (wc.alloc (.cells #[] 25)) wc.heap.size 25 1 cI (.slice (some ⟨wc.heap.size, 0, none⟩) 0 0) [] from OwnL.made (Nat.le_refl _))
    go_wp2_with (at_builtin; refine wpList_append_sl rfl _ _ 39 rfl wc.heap.size 25 i1 _ 1 8 Try.underlying39 HJ.out HJ0.out HJ1.out HJ2.out rfl (by decide) cI_len cI_one _ [] rfl HO0.out o2 l.length c2 cm rfl (by first | exact H2.out.below (grew1 HB_wc) | exact H2.out.below (grew1 (Below.refl _ _))) (by unfold maxLen; simp; omega) (by simp; omega) (by simp) ?_)
    rintro v_w5 w5 ho hg hgr
    have HO_w5 := Lib.hid ho
    have HB_w5 : Below w.heap.size w w5 := (grew1 HB_wc).trans (hg _ HB_wc.size)
    have hb_w5 := Lib.hid (show Below wc.heap.size wc w5 from (grew1 (Below.refl _ _)).trans (hg _ (Nat.le_refl _)))
    have hz_w5 : wc.heap.size ≤ w5.heap.size := hb_w5.out.size
    clear ho hg hgr HO0
    obtain ⟨g2, cg2, rfl, hg3, hg4⟩ := OwnL.form' HO_w5.out (by omega)
    rw [hcl] at HO_w5 ⊢
    have hwg2 : w.heap.size ≤ g2 := Nat.le_trans HB_wc.size hg3
    go_wp2_with fail
    obtain ⟨W6, hW6⟩ : ∃ W, w5.drew = W := ⟨_, rfl⟩
    have HO6 := Lib.hid (show OwnL W6 wc.heap.size 25 1 cI (.slice (some ⟨g2, 0, none⟩) l.length cg2) cm from hW6 ▸ HO_w5.out.drew)
    have hq1 := OwnL.setI HO6.out (j := K) (by omega) u2
    have hq2 := OwnL.setI hq1.1 (j := K + 1) (by rw [List.length_set]; omega) u1
    have HO9 := Lib.hid (show OwnL _ wc.heap.size 25 1 cI (.slice (some ⟨g2, 0, none⟩) l.length cg2) (sw cm K u1 u2) from hq2.1)
    have HB_6 : Below w.heap.size w W6 := hW6 ▸ HB_w5.drew
    have HC6 : Below wc.heap.size wc W6 := hW6 ▸ hb_w5.out.drew
    have HB_9 := (HB_6.setCell (p := ⟨g2, K, none⟩) hwg2 (.int .i64 u2)).setCell (p := ⟨g2, K + 1, none⟩) hwg2 (.int .i64 u1)
    have HC9 := (HC6.setCell (p := ⟨g2, K, none⟩) hg3 (.int .i64 u2)).setCell (p := ⟨g2, K + 1, none⟩) hg3 (.int .i64 u1)
    have HB9 := Lib.hid HB_9
    have HCC := Lib.hid HC9
    have e_0 := OwnL.cellI HO6.out hkx
    have e_1 := OwnL.cellI HO6.out hky
    have f_1 := OwnL.frozenG HO6.out (K + 1)
    have f_2 := OwnL.frozenG HO6.out K
    have y_n : Nonempty (Wc (fun W => True)) := ⟨⟨W6, trivial⟩⟩
    clear hq1 hq2 hkx hky HO_w5 HO6 HB_9 HC9 HC6 hb_w5 HB_6
    refine wp_region_plan (C := fun w' => ∃ p : Wc (fun W => True), w' = p.w) (.q 0 (.q 1 (.q 2 (.q 3 (.q 4 (.q 5 (.q 6 (.q 7 (.q 8 (.q 10 (.q 11 (.q 12 (.two 9 (.e 13 (.q 14 (.e 15 (.q 16 (.e 17 (.done)))))) 13 (.e 9 (.q 14 (.e 15 (.q 16 (.e 17 (.done))))))))))))))))))) 18 (by kernel_rfl) (by kernel_rfl) ⟨⟨_, ?_⟩, rfl⟩ ?_
    · trivial
    repeat (any_goals (first | (go_big_quiet_skip; refine wpQuiet_nil ?_) | (go_big_quiet_want; go_big_quiet_op; go_big_quiet_on; refine wpQuiet_nil ?_) | ((with_reducible apply q_split); exact rfl; intro q hq; cases q <;> (rw [hq]; (try first | replace hq := bnot_t hq | replace hq := bnot_f hq); (try first | replace hq := of_decide_eq_true hq | replace hq := of_decide_eq_false hq | replace hq := eq_of_beq hq); (try first | replace hq := Int.not_lt.1 hq | replace hq := Int.not_le.1 hq | replace hq := Nat.not_lt.1 hq | replace hq := Nat.not_le.1 hq); try (exfalso; omega))) | (refine plan_q rfl rfl ?_)))
    rw [show { heap := w5.heap, tape := w5.tape, drawn := w5.drawn + 1, os := w5.os, output := w5.output } = W6 from hW6]
    clear hW6
    obtain ⟨W9, hW9⟩ : ∃ X, (W6.setCell ⟨g2, K, none⟩ (.int .i64 u2)).setCell ⟨g2, K + 1, none⟩ (.int .i64 u1) = X := ⟨_, rfl⟩
    rw [hW9] at HO9 HB9 HCC
    have HW9 := Lib.hid hW9
    have HB_W9 := HB9.out
    clear hW9
    refine plan_two rfl rfl ?_ ?_
    all_goals
      go_wp2_with fail
      refine MixPost.intro ⟨⟨_, trivial⟩, rfl⟩ ?_
      repeat (any_goals (first | (go_big_quiet_skip; refine wpQuiet_nil ?_) | (go_big_quiet_want; go_big_quiet_op; go_big_quiet_on; refine wpQuiet_nil ?_) | ((with_reducible apply q_split); exact rfl; intro q hq; cases q <;> (rw [hq]; (try first | replace hq := bnot_t hq | replace hq := bnot_f hq); (try first | replace hq := of_decide_eq_true hq | replace hq := of_decide_eq_false hq | replace hq := eq_of_beq hq); (try first | replace hq := Int.not_lt.1 hq | replace hq := Int.not_le.1 hq | replace hq := Nat.not_lt.1 hq | replace hq := Nat.not_le.1 hq); try (exfalso; omega))) | (refine plan_q rfl rfl ?_)))
      refine plan_e rfl ?_
      go_wp2_with fail
      refine MixPost.intro ⟨⟨_, trivial⟩, rfl⟩ ?_
      repeat (any_goals (first | (go_big_quiet_skip; refine wpQuiet_nil ?_) | (go_big_quiet_want; go_big_quiet_op; go_big_quiet_on; refine wpQuiet_nil ?_) | ((with_reducible apply q_split); exact rfl; intro q hq; cases q <;> (rw [hq]; (try first | replace hq := bnot_t hq | replace hq := bnot_f hq); (try first | replace hq := of_decide_eq_true hq | replace hq := of_decide_eq_false hq | replace hq := eq_of_beq hq); (try first | replace hq := Int.not_lt.1 hq | replace hq := Int.not_le.1 hq | replace hq := Nat.not_lt.1 hq | replace hq := Nat.not_le.1 hq); try (exfalso; omega))) | (refine plan_q rfl rfl ?_)))
      refine plan_e rfl ?_
      go_wp2_with fail
      refine MixPost.intro ⟨⟨_, trivial⟩, rfl⟩ ?_
      repeat (any_goals (first | (go_big_quiet_skip; refine wpQuiet_nil ?_) | (go_big_quiet_want; go_big_quiet_op; go_big_quiet_on; refine wpQuiet_nil ?_) | ((with_reducible apply q_split); exact rfl; intro q hq; cases q <;> (rw [hq]; (try first | replace hq := bnot_t hq | replace hq := bnot_f hq); (try first | replace hq := of_decide_eq_true hq | replace hq := of_decide_eq_false hq | replace hq := eq_of_beq hq); (try first | replace hq := Int.not_lt.1 hq | replace hq := Int.not_le.1 hq | replace hq := Nat.not_lt.1 hq | replace hq := Nat.not_le.1 hq); try (exfalso; omega))) | (refine plan_q rfl rfl ?_)))
      refine plan_e rfl ?_
      go_wp2_with fail
      refine MixPost.intro ⟨⟨_, trivial⟩, rfl⟩ ?_
      refine plan_done ?_
      try simp only [List.drop_succ_cons, List.drop_zero]
      rw [HW9.out]
      clear HW9 e_0 e_1 f_1 f_2 y_n
      go_wp2_with fail
      refine NoPanic.normal ?_
      go_wp2_with fail
      refine (k_same _ (H1.out.below HCC.out) (H3.out.below HCC.out) rfl).mono ?_
      rintro e wd ⟨rfl, hb_wd⟩
      have HB_wd : Below w.heap.size w wd := by first | exact after0 HB_W9 hb_wd | exact after1 HB_W9 hb_wd | exact after2 HB_W9 hb_wd | exact after3 HB_W9 hb_wd | exact after4 HB_W9 hb_wd | exact after5 HB_W9 hb_wd
      have H4D := Lib.hid ((H4.out.below HCC.out).below hb_wd)
      have H9D := Lib.hid ((HO9.out.slG cI_len).below hb_wd)
      go_wp2_with fail
      refine (k_errs _ H4D.out H9D.out HE3.out).mono ?_
      rintro e we ⟨rfl, hb_we⟩
      have HB_we : Below w.heap.size w we := by first | exact after0 HB_wd hb_we | exact after1 HB_wd hb_we | exact after2 HB_wd hb_we | exact after3 HB_wd hb_we | exact after4 HB_wd hb_we | exact after5 HB_wd hb_we
      go_wp2_with fail
      go_ret
      exact ⟨rfl, HB_we⟩
end Go.Proofs.Ytmbnhlihcnbebaa
