/-
  The law EyesAlone.
-/
import Derived.Test.YtmbnhlihcnbebaaEyR
import Derived.Test.YtmbnhlihcnbebaaEyTn
import Derived.Test.YtmbnhlihcnbebaaEyJo
set_option linter.unusedVariables false
namespace Go.Proofs.Ytmbnhlihcnbebaa
open Go Go.RowKit Ey Sk Go.Sort
theorem OwnL.slA {α : Type} {enc : α → List Value} {w : World} {base e k n c : Nat} {o : Option Addr} {ys : List α} (hk : ∀ x, (enc x).length = k) (h : OwnL w base e k enc (.slice o n c) ys) : Sl w k enc o n c ys := by
  obtain ⟨ao, cap, he, hs⟩ := h.sl hk
  simp only [Value.slice.injEq] at he
  obtain ⟨rfl, rfl, rfl⟩ := he
  exact hs

set_option maxRecDepth 100000 in
set_option maxHeartbeats 8000000 in
theorem alone_walk (hko : KeysOk) (ao : Option Addr) (n cap : Nat) (l : List Ac) (ao2 : Option Addr) (n2 cap2 : Nat) (m : List Ac) (p : Int) (w : World) (hs : Sl w 8 cA ao n cap l) (hs2 : Sl w 8 cA ao2 n2 cap2 m) :
    Calls Try.prog 4 #[.slice ao n cap, .slice ao2 n2 cap2, .int .i64 p] w (Ret w (.bool true)) := by
  obtain rfl := hs.len
  have hle := hs.le
  have hcap := hs.max
  unfold maxLen at hcap
  have HS := Lib.hid hs
  have HKO := Lib.hid hko
  have HB_w : Below w.heap.size w w := Below.refl _ _
  clear hs hko
  obtain rfl := hs2.len
  have hle2 := hs2.le
  have hcap2 := hs2.max
  unfold maxLen at hcap2
  have HS2 := Lib.hid hs2
  clear hs2
  obtain ⟨i0, hi, hz0, hz1, hz2⟩ := info_parts info_act
  have HI := Lib.hid hi
  have HZ0 := Lib.hid hz0
  have HZ1 := Lib.hid hz1
  have HZ2 := Lib.hid hz2
  clear hi hz0 hz1 hz2
  go_enter Try.func4, Try.ntmps4
  go_wp2_with fail
  refine (head_any HKO.out _).mono ?_
  rintro e wa ⟨rfl, hb_wa⟩
  have HB_wa : Below w.heap.size w wa := by first | exact after0 HB_w hb_wa | exact after1 HB_w hb_wa | exact after2 HB_w hb_wa | exact after3 HB_w hb_wa | exact after4 HB_w hb_wa | exact after5 HB_w hb_wa
  by_cases hl : 200 < (l.length : Int)
  ·
    go_wp2_with fail
    all_goals try (exfalso; omega)
    go_ret
    exact ⟨rfl, HB_wa⟩
  replace hl := Int.not_lt.1 hl
  by_cases hl2 : 200 < (m.length : Int)
  ·
    go_wp2_with fail
    all_goals try (exfalso; omega)
    go_ret
    exact ⟨rfl, HB_wa⟩
  replace hl2 := Int.not_lt.1 hl2
  by_cases hl3 : 200 < (l.length : Int) + (m.length : Int)
  ·
    go_wp2_with fail
    all_goals try (exfalso; omega)
    go_ret
    exact ⟨rfl, HB_wa⟩
  replace hl3 := Int.not_lt.1 hl3
  have HSA := Lib.hid (HS2.out.below HB_wa)
  have HO0 := Lib.hid (show OwnL (wa.alloc (.cells #[] 37)) wa.heap.size 37 8 cA (.slice (some ⟨wa.heap.size, 0, none⟩) 0 0) [] from OwnL.made (Nat.le_refl _))
  go_wp2_with (at_builtin; refine wpList_append_sl rfl _ _ 22 rfl wa.heap.size 37 i0 _ 8 64 Try.underlying22 HI.out HZ0.out HZ1.out HZ2.out rfl (by decide) cA_len cA_one _ [] rfl HO0.out ao2 m.length cap2 m rfl (by first | exact HSA.out.below (grew1 HB_wa) | exact HSA.out.below (grew1 (Below.refl _ _))) (by unfold maxLen; simp; omega) (by simp; omega) (by simp) ?_)
  rintro v_w1 w1 ho hg hgr
  have HO_w1 := Lib.hid ho
  have HB_w1 : Below w.heap.size w w1 := (grew1 HB_wa).trans (hg _ HB_wa.size)
  have hb_w1 := Lib.hid (show Below wa.heap.size wa w1 from (grew1 (Below.refl _ _)).trans (hg _ (Nat.le_refl _)))
  have hz_w1 : wa.heap.size ≤ w1.heap.size := hb_w1.out.size
  clear ho hg hgr HO0
  obtain ⟨o1, c1, rfl, -⟩ := OwnL.sl cA_len (show OwnL w1 wa.heap.size 37 8 cA v_w1 m from HO_w1.out)
  replace HO_w1 := Lib.hid (show OwnL w1 wa.heap.size 37 8 cA (.slice o1 m.length c1) (whoL p m 0) from HO_w1.out)
  clear HSA
  go_wp2_with fail
  go_loopw [9] (fun i wr => ∃ k : Nat, k ≤ m.length ∧ i = .int .i64 k ∧ Below w.heap.size w wr ∧ Hid (Below wa.heap.size wa wr) ∧ Hid (OwnL wr wa.heap.size 37 8 cA (.slice o1 m.length c1) (whoL p m k))) (fun i _ => m.length - (intOf i).toNat)
  case atStart => exact ⟨0, by omega, rfl, HB_w1, hb_w1, HO_w1⟩
  case round =>
    clear HO_w1
    obtain ⟨k, hk, rfl, HB_wr, HBB, HO⟩ := hrel
    have hwl := whoL_len p m k
    by_cases hlt : k < m.length
    · obtain ⟨g, cg, hv, hg1, hg2⟩ := OwnL.form' HO.out (by omega)
      simp only [Value.slice.injEq] at hv
      obtain ⟨rfl, -, rfl⟩ := hv
      have hwg : w.heap.size ≤ g := Nat.le_trans HB_wa.size hg1
      have hka := whoL_at (p := p) hlt
      obtain ⟨-, -, f_2, -⟩ := OwnL.cellsA HO.out hka
      have f_4 := OwnL.frozenG HO.out (k * 8 + 2)
      have hst := OwnL.setG cA_len HO.out (j := k) (by omega) (i := 2) (by decide) (u := .int .i64 p) (a := { m[k] with person := p }) (by rw [(List.getElem?_eq_some_iff.1 hka).2]; rfl)
      rw [whoL_set hlt] at hst
      have HO2 := Lib.hid hst.1
      have HG2 := Lib.hid hst.2
      clear hst hka
      generalize m[k].person = t0 at *
      obtain ⟨W2, hW2⟩ : ∃ X, wr.setCell ⟨g, k * 8 + 2, none⟩ (.int .i64 p) = X := ⟨_, rfl⟩
      rw [hW2] at HO2 HG2
      have HW2 := Lib.hid hW2
      have HB_W2 : Below w.heap.size w W2 := HB_wr.grown HG2.out HB_wr.size (fun j hj => by cases hj; exact hwg)
      have HBB2 := Lib.hid (HBB.out.grown HG2.out HBB.out.size (fun j hj => by cases hj; exact hg1))
      clear hW2 HO HG2
      go_wp2_with fail
      all_goals try (exfalso; omega)
      rw [HW2.out]
      go_roundw
      case rel => exact ⟨k + 1, hlt, by go_num, HB_W2, HBB2.out, HO2.out⟩
      case measure => simp [intOf] <;> omega
    · obtain rfl : k = m.length := by omega
      have hMp := whoL_all p m
      generalize whoL p m m.length = M at *
      have HMP := Lib.hid hMp
      clear hMp
      go_wp2_with fail
      refine (replay_any HKO.out _ _ _ M _ (OwnL.slA cA_len HO.out) (by omega)).mono ?_
      rintro e wb ⟨q1, d1, q2, d2, rfl, hs1, -, hb_wb⟩
      have HB_wb : Below w.heap.size w wb := by first | exact after0 HB_wr hb_wb | exact after1 HB_wr hb_wb | exact after2 HB_wr hb_wb | exact after3 HB_wr hb_wb | exact after4 HB_wr hb_wb | exact after5 HB_wr hb_wb
      have HB_wb2 := HBB.out
      have HOM := Lib.hid (HO.out.below hb_wb)
      have h1l := hs1.max
      have h1m := hs1.le
      try dsimp only at h1m h1l
      unfold maxLen at h1l
      have H1 := Lib.hid hs1
      have HNT := Lib.hid (fun (d : Dg) hd => alone_none HMP.out (d := d) hd)
      clear hs1 HO
      generalize (replS M).L = LA at *
      go_wp2_with fail
      all_goals try (exfalso; omega)
      go_loopw [7, 12] (fun u i wr => ∃ k : Nat, k ≤ LA.length ∧ u = .bool true ∧ i = .int .i64 k ∧ wb = wr) (fun _ i _ => LA.length - (intOf i).toNat)
      case atStart => exact ⟨0, by omega, rfl, rfl, rfl⟩
      case round =>
        obtain ⟨k, hk, rfl, rfl, rfl⟩ := hrel
        by_cases hlt : k < LA.length
        · obtain ⟨b', off, rfl, hb, hrow⟩ := H1.out.get hlt
          obtain ⟨-, e_1, -⟩ := (hrow k hlt).c12
          have htd := HNT.out _ (List.getElem_mem hlt)
          clear hrow
          rw [htd] at e_1
          clear htd
          go_wp2_with fail
          all_goals try (exfalso; omega)
          go_roundw
          case rel => exact ⟨k + 1, hlt, rfl, by go_num, by first | rfl | trivial⟩
          case measure => simp [intOf] <;> omega
        · obtain rfl : k = LA.length := by omega
          clear H1 HNT h1l h1m
          go_wp2_with fail
          refine (replay_any HKO.out _ _ _ l _ (HS.out.below HB_wb) (by omega)).mono ?_
          rintro e wc ⟨q3, d3, q4, d4, rfl, hs3, -, hb_wc⟩
          have HB_wc : Below w.heap.size w wc := by first | exact after0 HB_wb hb_wc | exact after1 HB_wb hb_wc | exact after2 HB_wb hb_wc | exact after3 HB_wb hb_wc | exact after4 HB_wb hb_wc | exact after5 HB_wb hb_wc
          have HBC := Lib.hid (HB_wb2.trans (hb_wb.mono HB_wb2.size))
          replace HBC := Lib.hid (HBC.out.trans (hb_wc.mono HBC.out.size))
          replace HOM := Lib.hid (HOM.out.below hb_wc)
          have h3l := hs3.max
          have h3m := hs3.le
          try dsimp only at h3m h3l
          unfold maxLen at h3l
          have H3 := Lib.hid hs3
          have hst := replS_state l
          have HAT := Lib.hid (fun h => alone_tol (l := l) HMP.out h)
          clear hs3 HBB hb_wb
          generalize (replS l).L = L at *
          have HST := Lib.hid hst
          clear hst
          have HSB := Lib.hid (HS.out.below HB_wc)
          have HO0 := Lib.hid (show OwnL (wc.alloc (.cells #[] 37)) wc.heap.size 37 8 cA (.slice (some ⟨wc.heap.size, 0, none⟩) 0 0) [] from OwnL.made (Nat.le_refl _))
          go_wp2_with (at_builtin; refine wpList_append_sl rfl _ _ 22 rfl wc.heap.size 37 i0 _ 8 64 Try.underlying22 HI.out HZ0.out HZ1.out HZ2.out rfl (by decide) cA_len cA_one _ [] rfl HO0.out ao l.length cap l rfl (by first | exact HSB.out.below (grew1 HB_wc) | exact HSB.out.below (grew1 (Below.refl _ _))) (by unfold maxLen; simp; omega) (by simp; omega) (by simp) ?_)
          rintro v_w3 w3 ho hg hgr
          have HO_w3 := Lib.hid ho
          have HB_w3 : Below w.heap.size w w3 := (grew1 HB_wc).trans (hg _ HB_wc.size)
          have hb_w3 := Lib.hid (show Below wc.heap.size wc w3 from (grew1 (Below.refl _ _)).trans (hg _ (Nat.le_refl _)))
          have hz_w3 : wc.heap.size ≤ w3.heap.size := hb_w3.out.size
          clear ho hg hgr HO0
          have hb3 := Lib.hid (show OwnL w3 wc.heap.size 37 8 cA v_w3 l from HO_w3.out)
          have H3b := Lib.hid (H3.out.below hb_w3.out)
          have HOMb := Lib.hid (HOM.out.below hb_w3.out)
          clear HSB HO_w3 HOM
          go_wp2_with fail
          go_loopw [16] (fun i wr => ∃ k : Nat, k ≤ L.length ∧ i = .int .i64 k ∧ w3 = wr ∧ Hid (∀ d ∈ L.take k, d.prop = 0)) (fun i _ => L.length - (intOf i).toNat)
          case atStart => exact ⟨0, by omega, rfl, rfl, fun d hd => by simp at hd⟩
          case round =>
            obtain ⟨k, hk, rfl, rfl, HZ⟩ := hrel
            by_cases hlt : k < L.length
            · obtain ⟨b', off, rfl, hb, hrow⟩ := H3b.out.get hlt
              have f_6 := (hrow k hlt).c12.2.2.2.2.2.2.1
              have HPZ := Lib.hid (prop_zero HST.out (List.getElem_mem hlt))
              have HZN : Hid (L[k].prop = 0 → ∀ d ∈ L.take (k + 1), d.prop = 0) := fun h0 d hd => by
                rw [List.take_add_one, List.getElem?_eq_getElem hlt, Option.toList_some, List.mem_append, List.mem_singleton] at hd
                rcases hd with hd | rfl
                · exact HZ.out d hd
                · exact h0
              clear hrow
              generalize L[k].prop = t0 at *
              by_cases ht : 0 < t0
              ·
                go_wp2_with fail
                all_goals try (exfalso; omega)
                go_ret
                exact ⟨rfl, HB_w3⟩
              have h0 := HPZ.out ht
              go_wp2_with fail
              all_goals try (exfalso; omega)
              go_roundw
              case rel => exact ⟨k + 1, hlt, by go_num, by first | rfl | trivial, HZN.out h0⟩
              case measure => simp [intOf] <;> omega
            · obtain rfl : k = L.length := by omega
              rw [List.take_length] at HZ
              replace HAT := Lib.hid (HAT.out HZ.out)
              have HTL := Lib.hid (fun d hd => zero_told HST.out hd (HZ.out d hd))
              have HSM := Lib.hid (OwnL.slA cA_len HOMb.out)
              clear HZ HST HOMb
              obtain ⟨z3, r3, rfl, -⟩ := hb3.out.sl cA_len
              go_wp2_with (at_builtin; refine wpList_append_sl rfl _ _ 22 rfl wc.heap.size 37 i0 _ 8 64 Try.underlying22 HI.out HZ0.out HZ1.out HZ2.out rfl (by decide) cA_len cA_one _ l rfl hb3.out o1 m.length c1 M rfl HSM.out (by unfold maxLen; omega) (by omega) hz_w3 ?_)
              rintro v_w4 w4 ho hg hgr
              have HB_w4 : Below w.heap.size w w4 := HB_w3.trans (hg _ HB_wc.size)
              have hb_w4 := Lib.hid (hg _ (Nat.le_refl _))
              have HO4 := Lib.hid ho
              clear ho hg hgr
              have hll : (l ++ M).length = l.length + M.length := List.length_append
              generalize l ++ M = K at *
              have HKL := Lib.hid (show K.length ≤ 200 by omega)
              clear hll
              obtain ⟨z4, r4, rfl, hs4⟩ := HO4.out.sl cA_len
              have HS4 := Lib.hid hs4
              have HZT := hz_w3
              have H3c := Lib.hid (H3.out.below (hb_w3.out.trans hb_w4.out))
              clear hs4 HO4 H3 H3b
              go_wp2_with fail
              refine (replay_any HKO.out _ _ _ K _ HS4.out (Nat.le_trans HKL.out (by decide))).mono ?_
              rintro e wd ⟨q5, d5, q6, d6, rfl, hs5, -, hb_wd⟩
              have HB_wd : Below w.heap.size w wd := by first | exact after0 HB_w4 hb_wd | exact after1 HB_w4 hb_wd | exact after2 HB_w4 hb_wd | exact after3 HB_w4 hb_wd | exact after4 HB_w4 hb_wd | exact after5 HB_w4 hb_wd
              have h5l := hs5.max
              have h5m := hs5.le
              try dsimp only at h5m h5l
              unfold maxLen at h5l
              have H5 := Lib.hid hs5
              have H3d := Lib.hid (H3c.out.below hb_wd)
              clear hs5 H3c HS4 HSM
              generalize (replS K).L = R at *
              have HTN := Lib.hid (fun k hk ht => @tn_at L R HAT.out k hk ht)
              have HTE := Lib.hid (tn_len HAT.out)
              clear HAT
              go_wp2_with fail
              go_loopw [19, 20] (fun c i wr => ∃ k : Nat, k ≤ R.length ∧ c = .int .i64 (tn R k) ∧ i = .int .i64 k ∧ Below w.heap.size w wr ∧ Hid (Below wd.heap.size wd wr)) (fun _ i _ => R.length - (intOf i).toNat)
              case atStart => exact ⟨0, by omega, rfl, rfl, HB_wd, Below.refl _ _⟩
              case round =>
                obtain ⟨k, hk, rfl, rfl, HB_wr, HBB⟩ := hrel
                have hnk := tn_le R k
                by_cases hlt : k < R.length
                · obtain ⟨b', off, rfl, hb, hrow⟩ := (H5.out.below HBB.out).get hlt
                  obtain ⟨f_0, f_1, f_2, f_3, f_4, f_5, -⟩ := (hrow k hlt).c12
                  clear hrow
                  cases ht : R[k].told
                  · have hnx := tn_no hlt ht
                    rw [ht] at f_1
                    clear ht
                    generalize R[k] = d at *
                    generalize tn R k = c at *
                    go_wp2_with fail
                    all_goals try (exfalso; omega)
                    go_roundw
                    case rel => exact ⟨k + 1, hlt, by rw [hnx], by go_num, HB_wr, HBB.out⟩
                    case measure => simp [intOf] <;> omega
                  · have hnx := tn_yes hlt ht
                    obtain ⟨hn, h1, h2⟩ := HTN.out k hlt ht
                    have htl := HTL.out _ (List.getElem_mem hn)
                    rw [ht] at f_1
                    clear ht
                    obtain ⟨b2, off2, rfl, hb2, hrow2⟩ := (H3d.out.below HBB.out).get hn
                    obtain ⟨e_0, e_1, e_2, e_3, e_4, e_5, -⟩ := (hrow2 _ hn).c12
                    clear hrow2
                    rw [h1] at e_0
                    rw [h2] at e_2 e_3 e_4 e_5
                    rw [htl] at e_1
                    clear h1 h2 htl
                    generalize R[k] = d at *
                    generalize tn R k = c at *
                    obtain ⟨r0, told, ⟨r2, r3, r4, r5⟩, r6, drop, ⟨r8, r9, r10, r11⟩⟩ := d
                    dsimp only at f_0 f_2 f_3 f_4 f_5 e_0 e_2 e_3 e_4 e_5
                    have hq := neq_box r2 r3 r4 r5 r2 r3 r4 r5
                    rw [decide_eq_true (rfl : (⟨r2, r3, r4, r5⟩ : Bx) = ⟨r2, r3, r4, r5⟩)] at hq
                    go_wp2_with fail
                    have y_e_0 := cell_regrown e_0
                    have y_e_1 := cell_regrown e_1
                    have y_e_2 := cell_regrown e_2
                    have y_e_3 := cell_regrown e_3
                    have y_e_4 := cell_regrown e_4
                    have y_e_5 := cell_regrown e_5
                    clear e_0 e_1 e_2 e_3 e_4 e_5
                    have y_f_0 := cell_regrown f_0
                    have y_f_1 := cell_regrown f_1
                    have y_f_2 := cell_regrown f_2
                    have y_f_3 := cell_regrown f_3
                    have y_f_4 := cell_regrown f_4
                    have y_f_5 := cell_regrown f_5
                    clear f_0 f_1 f_2 f_3 f_4 f_5
                    refine wp_region_plan (C := fun w' => ∃ p : Regrown, w' = grow (redrawn wr p.d) p.os) (.q 0 (.q 1 (.q 2 (.q 3 (.q 4 (.q 5 (.q 6 (.q 7 (.q 8 (.q 9 (.q 10 (.q 11 (.q 12 (.q 13 (.q 14 (.q 15 (.q 16 (.q 17 (.q 18 (.q 19 (.q 20 (.q 21 (.q 22 (.q 23 (.q 24 (.q 25 (.q 26 (.q 27 (.q 28 (.q 29 (.q 30 (.q 31 (.q 32 (.q 33 (.q 34 (.q 35 (.q 36 (.q 37 (.done))))))))))))))))))))))))))))))))))))))) 38 (by kernel_rfl) (by kernel_rfl) (grew_drew _) ?_
                    repeat (any_goals (first | (go_big_quiet_skip; refine wpQuiet_nil ?_) | (go_big_quiet_want; go_big_quiet_op; go_big_quiet_on; refine wpQuiet_nil ?_) | ((with_reducible apply q_split); exact rfl; intro q hq; cases q <;> (rw [hq]; (try first | replace hq := bnot_t hq | replace hq := bnot_f hq); (try first | replace hq := of_decide_eq_true hq | replace hq := of_decide_eq_false hq | replace hq := eq_of_beq hq); (try first | replace hq := Int.not_lt.1 hq | replace hq := Int.not_le.1 hq | replace hq := Nat.not_lt.1 hq | replace hq := Nat.not_le.1 hq); try (exfalso; omega))) | (refine plan_q rfl rfl ?_)))
                    clear y_e_0 y_e_1 y_e_2 y_e_3 y_e_4 y_e_5
                    clear y_f_0 y_f_1 y_f_2 y_f_3 y_f_4 y_f_5
                    all_goals refine plan_done ?_
                    all_goals (try simp only [List.drop_succ_cons, List.drop_zero])
                    all_goals (try go_wp2_with fail)
                    all_goals refine NoPanic.normal ?_
                    all_goals (try go_wp2_with fail)
                    all_goals
                      go_roundw
                      case rel => exact ⟨k + 1, hlt, by rw [hnx]; go_num, by go_num, HB_wr.drew, HBB.out.drew⟩
                      case measure => simp [intOf] <;> omega
                · obtain rfl : k = R.length := by omega
                  have hte := HTE.out
                  go_wp2_with fail
                  go_ret
                  exact ⟨by first | rfl | exact ret_bool' (decide_eq_true (by omega)), HB_wr⟩
end Go.Proofs.Ytmbnhlihcnbebaa
