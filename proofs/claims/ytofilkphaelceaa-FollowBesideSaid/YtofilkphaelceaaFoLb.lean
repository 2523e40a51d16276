/-
  The law FollowBeside.
-/
import Derived.Test.YtofilkphaelceaaFoTb
set_option linter.unusedVariables false
namespace Go.Proofs.Ytofilkphaelceaa
open Go Go.RowKit Fo Sk Go.Sort

theorem take_has2 {B : List (Int × Int)} {z : Int × Int} {q : Nat} (h : q < B.length) : (B.take (q + 1)).contains z = ((B.take q).contains z || decide (B[q] = z)) := by
  rw [take_has h]
  congr 1
  rw [Bool.eq_iff_iff, beq_iff_eq, decide_eq_true_eq]


set_option maxRecDepth 100000 in
set_option maxHeartbeats 8000000 in
theorem beside_walk (hso : SortOk) (ao : Option Addr) (n cap : Nat) (l : List St) (bo : Option Addr) (m capb : Nat) (o : List Int) (u v : Int) (w : World) (hs : SlS w ao n cap l) (hd : Sl w 1 cI bo m capb o) (hu : (Lit.int .u8 u).wf = true) (hv : (Lit.int .u8 v).wf = true) :
    Calls Try.prog 10 #[.slice ao n cap, .slice bo m capb, .int .u8 u, .int .u8 v] w (Ret w (.bool true)) := by
  obtain rfl := hs.1.len
  have hle := hs.1.le
  have hcap := hs.1.max
  unfold maxLen at hcap
  have HS := Lib.hid hs
  have HSO := Lib.hid hso
  have HB_w : Below w.heap.size w w := Below.refl _ _
  obtain rfl := hd.len
  have hle2 := hd.le
  have hcap2 := hd.max
  unfold maxLen at hcap2
  have hu2 : 0 ≤ u ∧ u ≤ 255 := by simpa [Lit.wf, IntKind.min, IntKind.max, IntKind.bits, IntKind.signed] using hu
  have hv2 : 0 ≤ v ∧ v ≤ 255 := by simpa [Lit.wf, IntKind.min, IntKind.max, IntKind.bits, IntKind.signed] using hv
  have HD := Lib.hid hd
  obtain ⟨i0, hi, hz0, hz1, hz2⟩ := info_parts info_int
  have HI := Lib.hid hi
  have HZ0 := Lib.hid hz0
  have HZ1 := Lib.hid hz1
  have HZ2 := Lib.hid hz2
  clear hs hd hso hi hz0 hz1 hz2 hu hv
  go_enter Try.func10, Try.ntmps10
  go_wp2_with fail
  refine (head_any HSO.out _).mono ?_
  rintro e wa ⟨rfl, hb_wa⟩
  have HB_wa : Below w.heap.size w wa := by first | exact after0 HB_w hb_wa | exact after1 HB_w hb_wa | exact after2 HB_w hb_wa | exact after3 HB_w hb_wa | exact after4 HB_w hb_wa | exact after5 HB_w hb_wa
  go_wp2_with fail
  refine (rfew_any _ _ _ l _ (HS.out.below HB_wa)).mono ?_
  rintro e wb ⟨rfl, hb_wb⟩
  have HB_wb : Below w.heap.size w wb := by first | exact after0 HB_wa hb_wb | exact after1 HB_wa hb_wb | exact after2 HB_wa hb_wb | exact after3 HB_wa hb_wb | exact after4 HB_wa hb_wb | exact after5 HB_wa hb_wb
  cases h1 : fewB l
  · clear h1
    go_wp2_with fail
    all_goals try (exfalso; omega)
    go_ret
    exact ⟨rfl, HB_wb⟩
  have hl30 := (fewB_iff.1 h1).1
  clear h1
  by_cases h30 : 30 < (o.length : Int)
  ·
    go_wp2_with fail
    all_goals try (exfalso; omega)
    go_ret
    exact ⟨rfl, HB_wb⟩
  have h30' : (o.length : Int) ≤ 30 := by omega
  clear h30
  by_cases h2 : (l.length : Int) < 2
  ·
    go_wp2_with fail
    all_goals try (exfalso; omega)
    go_ret
    exact ⟨rfl, HB_wb⟩
  have h2' : 2 ≤ (l.length : Int) := by omega
  clear h2
  go_wp2_with fail
  all_goals try (exfalso; omega)
  refine (Valid_any _ _ _ l _ (HS.out.below HB_wb)).mono ?_
  rintro e wc ⟨rfl, hb_wc⟩
  have HB_wc : Below w.heap.size w wc := by first | exact after0 HB_wb hb_wc | exact after1 HB_wb hb_wc | exact after2 HB_wb hb_wc | exact after3 HB_wb hb_wc | exact after4 HB_wb hb_wc | exact after5 HB_wb hb_wc
  cases hvl : valid l
  · clear hvl
    go_wp2_with fail
    all_goals try (exfalso; omega)
    go_ret
    exact ⟨rfl, HB_wc⟩
  have HPX := Lib.hid (permR_ok (o := o) hvl (by omega))
  have HEX := Lib.hid (fun A B hA hB hAB => two_ex hvl hl30 (A := A) (B := B) hA hB hAB)
  clear hvl
  obtain ⟨K1, hK1, hlt1⟩ : ∃ K : Nat, u % (l.length : Int) = (K : Int) ∧ K < l.length := by
    have k1 := Int.emod_nonneg u (show ((l.length : Int)) ≠ 0 by omega)
    have k2 := Int.emod_lt_of_pos u (show (0 : Int) < l.length by omega)
    exact ⟨(u % (l.length : Int)).toNat, by omega, by omega⟩
  obtain ⟨K2, hK2, hlt2⟩ : ∃ K : Nat, v % (l.length : Int) = (K : Int) ∧ K < l.length := by
    have k1 := Int.emod_nonneg v (show ((l.length : Int)) ≠ 0 by omega)
    have k2 := Int.emod_lt_of_pos v (show (0 : Int) < l.length by omega)
    exact ⟨(v % (l.length : Int)).toNat, by omega, by omega⟩
  have hnz : ¬ ((l.length : Int) = 0) := by omega
  by_cases hkk : K1 = K2
  · subst hkk
    go_wp2_with fail
    refine wp_region_plan (C := fun w' => ∃ p : Regrown, w' = grow (redrawn wc p.d) p.os) (.q 0 (.q 1 (.q 2 (.q 3 (.q 4 (.q 5 (.q 6 (.q 7 (.q 8 (.q 9 (.q 10 (.q 11 (.done))))))))))))) 12 (by kernel_rfl) (by kernel_rfl) (grew_drew _) ?_
    repeat (any_goals (first | (go_big_quiet_skip; refine wpQuiet_nil ?_) | (go_big_quiet_want; go_big_quiet_op; go_big_quiet_on; refine wpQuiet_nil ?_) | ((with_reducible apply q_split); exact rfl; intro q hq; cases q <;> (rw [hq]; (try first | replace hq := bnot_t hq | replace hq := bnot_f hq); (try first | replace hq := of_decide_eq_true hq | replace hq := of_decide_eq_false hq | replace hq := eq_of_beq hq); (try first | replace hq := Int.not_lt.1 hq | replace hq := Int.not_le.1 hq | replace hq := Nat.not_lt.1 hq | replace hq := Nat.not_le.1 hq); try (exfalso; omega))) | (refine plan_q rfl rfl ?_)))
    all_goals refine plan_done ?_
    all_goals (try simp only [List.drop_succ_cons, List.drop_zero])
    all_goals (try go_wp2_with fail)
    all_goals refine NoPanic.normal ?_
    all_goals (try go_wp2_with fail)
    go_ret
    exact ⟨rfl, HB_wc.drew⟩
  have hkk2 : ((K1 : Int) == (K2 : Int)) = false := beq_eq_false_iff_ne.2 (by omega)
  obtain ⟨A, hA⟩ : ∃ A : Nat, (if K2 < K1 then (K2 : Int) else (K1 : Int)) = (A : Int) := by
    by_cases h : K2 < K1
    · exact ⟨K2, if_pos h⟩
    · exact ⟨K1, if_neg h⟩
  obtain ⟨B, hB⟩ : ∃ B : Nat, (if K1 < K2 then (K2 : Int) else (K1 : Int)) = (B : Int) := by
    by_cases h : K1 < K2
    · exact ⟨K2, if_pos h⟩
    · exact ⟨K1, if_neg h⟩
  have hAB : A < B ∧ B < l.length := by
    split at hA <;> split at hB <;> omega
  obtain ⟨hAB, hBl⟩ := hAB
  have hAl : A < l.length := by omega
  go_wp2_with fail
  refine wp_region_plan (C := fun w' => ∃ p : Regrown, w' = grow (redrawn wc p.d) p.os) (.q 0 (.q 1 (.q 2 (.q 3 (.q 4 (.q 5 (.q 6 (.q 7 (.q 8 (.q 9 (.q 10 (.q 11 (.done))))))))))))) 12 (by kernel_rfl) (by kernel_rfl) (grew_drew _) ?_
  repeat (any_goals (first | (go_big_quiet_skip; refine wpQuiet_nil ?_) | (go_big_quiet_want; go_big_quiet_op; go_big_quiet_on; refine wpQuiet_nil ?_) | ((with_reducible apply q_split); exact rfl; intro q hq; cases q <;> (rw [hq]; (try first | replace hq := bnot_t hq | replace hq := bnot_f hq); (try first | replace hq := of_decide_eq_true hq | replace hq := of_decide_eq_false hq | replace hq := eq_of_beq hq); (try first | replace hq := Int.not_lt.1 hq | replace hq := Int.not_le.1 hq | replace hq := Nat.not_lt.1 hq | replace hq := Nat.not_le.1 hq); try (exfalso; omega))) | (refine plan_q rfl rfl ?_)))
  all_goals refine plan_done ?_
  all_goals (try simp only [List.drop_succ_cons, List.drop_zero])
  all_goals (try go_wp2_with fail)
  all_goals refine NoPanic.normal ?_
  all_goals (try go_wp2_with fail)
  rw [hK1, hK2]
  clear hK1 hK2 hkk hkk2 hnz hu2 hv2
  obtain ⟨p, q, be, e1, e2, e3, e4, hp30, hq30, hpn, hpm, hqm, hyes, hno⟩ := HEX.out A B hAl hBl hAB
  have HE1 := Lib.hid e1
  have HE2 := Lib.hid e2
  have HE3 := Lib.hid e3
  have HE4 := Lib.hid e4
  have HPN := Lib.hid hpn
  have HPM := Lib.hid hpm
  have HQM := Lib.hid hqm
  have HYES := Lib.hid hyes
  have HNO := Lib.hid hno
  have hbl := besP_len l l.length
  have hsq : l.length * l.length ≤ 30 * 30 := Nat.mul_le_mul hl30 hl30
  obtain ⟨b, off, rfl, hb, hrow⟩ := HS.out.1.get hAl
  have f_0 := (hrow A hAl).c2.1
  have f_1 := (hrow B hBl).c2.1
  clear e1 e2 e3 e4 hpn hpm hqm hyes hno hrow HEX
  generalize l[A].n = a at *
  generalize l[B].n = c at *
  generalize besP l l.length = B0 at *
  obtain ⟨W, hW⟩ : ∃ X, wc.drew = X := ⟨_, rfl⟩
  rw [hW]
  have HB_W : Below w.heap.size w W := hW ▸ HB_wc.drew
  have e_0 : W.cell? ⟨b, off + A * 2, none⟩ = some (.int .i64 a) := (HB_W.cell (p := ⟨b, off + A * 2, none⟩) hb).trans f_0
  have e_1 : W.cell? ⟨b, off + B * 2, none⟩ = some (.int .i64 c) := (HB_W.cell (p := ⟨b, off + B * 2, none⟩) hb).trans f_1
  clear f_0 f_1 hW
  have y_e_0 := cell_regrown e_0
  have y_e_1 := cell_regrown e_1
  clear e_0 e_1
  refine wp_region_plan (C := fun w' => ∃ p : Regrown, w' = grow (redrawn W p.d) p.os) (.q 0 (.q 1 (.q 2 (.q 3 (.q 4 (.q 5 (.q 6 (.q 7 (.q 8 (.q 9 (.q 10 (.q 11 (.q 12 (.q 13 (.q 14 (.q 15 (.done))))))))))))))))) 16 (by kernel_rfl) (by kernel_rfl) (grew_drew _) ?_
  repeat (any_goals (first | (go_big_quiet_skip; refine wpQuiet_nil ?_) | (go_big_quiet_want; go_big_quiet_op; go_big_quiet_on; refine wpQuiet_nil ?_) | ((with_reducible apply q_split); exact rfl; intro q hq; cases q <;> (rw [hq]; (try first | replace hq := bnot_t hq | replace hq := bnot_f hq); (try first | replace hq := of_decide_eq_true hq | replace hq := of_decide_eq_false hq | replace hq := eq_of_beq hq); (try first | replace hq := Int.not_lt.1 hq | replace hq := Int.not_le.1 hq | replace hq := Nat.not_lt.1 hq | replace hq := Nat.not_le.1 hq); try (exfalso; omega))) | (refine plan_q rfl rfl ?_)))
  clear y_e_0 y_e_1
  all_goals refine plan_done ?_
  all_goals (try simp only [List.drop_succ_cons, List.drop_zero])
  all_goals (try go_wp2_with fail)
  all_goals refine NoPanic.normal ?_
  all_goals (try go_wp2_with fail)
  obtain ⟨W5, hW5⟩ : ∃ X, W.drew = X := ⟨_, rfl⟩
  have HB_W5 : Below w.heap.size w W5 := hW5 ▸ HB_W.drew
  rw [hW5]
  have HBB := Lib.hid (Beside_any _ _ _ l W5 (HS.out.below HB_W5))
  rw [HE1.out] at HBB
  clear hW5 hA hB HE1
  refine (HBB.out).mono ?_
  rintro e wd ⟨so, sn, sc, rfl, hpp, hb_wd⟩
  have HB_wd : Below w.heap.size w wd := by first | exact after0 HB_W5 hb_wd | exact after1 HB_W5 hb_wd | exact after2 HB_W5 hb_wd | exact after3 HB_W5 hb_wd | exact after4 HB_W5 hb_wd | exact after5 HB_W5 hb_wd
  obtain rfl := hpp.len
  have HPP := Lib.hid hpp
  have hpm := hpp.max
  have hpe := hpp.le
  unfold maxLen at hpm
  clear hpp HBB
  go_wp2_with fail
  go_loopw [16, 89] (fun be i wr => ∃ (q : Nat), q ≤ B0.length ∧ be = .bool ((B0.take q).contains (a, c)) ∧ i = .int .i64 q ∧ Hid (Below wd.heap.size wd wr)) (fun _ i _ => B0.length - (intOf i).toNat)
  case atStart => exact ⟨0, Nat.zero_le _, rfl, rfl, Below.refl _ _⟩
  case round =>
    obtain ⟨j, hj, rfl, rfl, HB5⟩ := hrel
    have HB_wr := after0 HB_wd HB5.out
    by_cases hlj : j < B0.length
    · obtain ⟨b3, off3, rfl, hb3, hrow3⟩ := (HPP.out.below HB5.out).get hlj
      obtain ⟨d_0, d_1⟩ := (hrow3 j hlj).c2
      have HTQ := Lib.hid (take_has2 (z := (a, c)) hlj)
      clear hrow3
      generalize B0[j] = pp at *
      obtain ⟨p0, p1⟩ := pp
      dsimp only at d_0 d_1
      obtain ⟨NP, hNP⟩ : ∃ N, wr.heap.size = N := ⟨_, rfl⟩
      obtain ⟨W2, hW2, hB2, hZ2, hb2⟩ := boxes1 wr [.int .i64 p0, .int .i64 p1] 46
      rw [hNP] at hb2
      have H_p := Lib.hid hb2
      have HB52 := Lib.hid (after0 HB5.out hB2)
      clear hb2 hB2 hZ2
      obtain ⟨q_p_0, q_p_1⟩ := H_p.out.c2
      have heq := eql_pair p0 p1 a c
      generalize decide ((p0, p1) = (a, c)) = qq at *
      generalize (B0.take j).contains (a, c) = bb at *
      cases bb
      · go_wp2_with fail
        go_roundw
        case rel => exact ⟨j + 1, hlj, by rw [HTQ.out]; rfl, by go_num, HB52.out⟩
        case measure => simp [intOf] <;> omega
      · go_wp2_with fail
        go_roundw
        case rel => exact ⟨j + 1, hlj, by rw [HTQ.out]; rfl, by go_num, HB52.out⟩
        case measure => simp [intOf] <;> omega
    · obtain rfl : j = B0.length := by omega
      rw [List.take_length, HE4.out]
      clear HB5 HE4 HPP
      cases be
      · have HPC := Lib.hid (Permitted_any _ _ _ l _ _ _ o _ (HS.out.below HB_wr) (HD.out.below HB_wr))
        rw [HPX.out] at HPC
        have HN2 := Lib.hid (fun (hp : permF l o = -1) => HNO.out rfl o (by omega) (HPX.out.trans (by rw [hp])))
        clear HPX HYES HNO HE2 HE3
        generalize permF l o = x at *
        go_wp2_with fail
        refine (HPC.out).mono ?_
        rintro e w1 ⟨rfl, hb_w1⟩
        have HB_w1 : Below w.heap.size w w1 := by first | exact after0 HB_wr hb_w1 | exact after1 HB_wr hb_w1 | exact after2 HB_wr hb_w1 | exact after3 HB_wr hb_w1 | exact after4 HB_wr hb_w1 | exact after5 HB_wr hb_w1
        clear HPC
        by_cases hx : x = -1
        case neg =>
          have hx1 : (x != -1) = true := bne_iff_ne.2 hx
          have hx2 : (x == -1) = false := beq_eq_false_iff_ne.2 hx
          clear hx HN2
          go_wp2_with fail
          all_goals try (exfalso; omega)
          go_ret
          exact ⟨rfl, HB_w1⟩
        have HN3 := Lib.hid (HN2.out hx)
        subst hx
        have HHA := Lib.hid (rhas_any _ _ _ o c _ (HD.out.below HB_w1))
        clear HN2
        go_wp2_with fail
        all_goals try (exfalso; omega)
        cases hoc : o.contains c
        · rw [hoc] at HHA
          clear hoc
          refine (HHA.out).mono ?_
          rintro e w2 ⟨rfl, hb_w2⟩
          have HB_w2 : Below w.heap.size w w2 := by first | exact after0 HB_w1 hb_w2 | exact after1 HB_w1 hb_w2 | exact after2 HB_w1 hb_w2 | exact after3 HB_w1 hb_w2 | exact after4 HB_w1 hb_w2 | exact after5 HB_w1 hb_w2
          go_wp2_with fail
          all_goals try (exfalso; omega)
          go_ret
          exact ⟨rfl, HB_w2⟩
        rw [hoc] at HHA
        clear hoc
        refine (HHA.out).mono ?_
        rintro e w2 ⟨rfl, hb_w2⟩
        have HB_w2 : Below w.heap.size w w2 := by first | exact after0 HB_w1 hb_w2 | exact after1 HB_w1 hb_w2 | exact after2 HB_w1 hb_w2 | exact after3 HB_w1 hb_w2 | exact after4 HB_w1 hb_w2 | exact after5 HB_w1 hb_w2
        clear HHA
        go_wp2_with fail
        all_goals try (exfalso; omega)
        go_loopw [214] (fun i wr => ∃ (k : Nat), k ≤ o.length ∧ i = .int .i64 k ∧ Hid (Below w2.heap.size w2 wr) ∧ Hid (∀ j, j < k → o[j]? ≠ some a)) (fun i _ => o.length - (intOf i).toNat)
        case atStart => exact ⟨0, Nat.zero_le _, rfl, Below.refl _ _, fun j h => absurd h (Nat.not_lt_zero _)⟩
        case round =>
          obtain ⟨k, hk, rfl, HB5, HJ⟩ := hrel
          have HB_wr := after0 HB_w2 HB5.out
          by_cases hlk : k < o.length
          · obtain ⟨b2, off2, rfl, hb2, hrow⟩ := (HD.out.below HB_wr).get hlk
            have e_0 := (hrow k hlk).c1
            rw [Nat.mul_one] at e_0
            have HOQ := Lib.hid (List.getElem?_eq_getElem hlk)
            have HF3 := Lib.hid (HN3.out k hlk)
            clear hrow
            generalize o[k] = y at *
            by_cases hya : y = a
            · have hx1 : (y == a) = true := beq_iff_eq.2 hya
              clear HJ HF3 HOQ hya
              go_wp2_with fail
              all_goals try (exfalso; omega)
              go_ret
              exact ⟨rfl, HB_wr⟩
            · have hx1 : (y == a) = false := beq_eq_false_iff_ne.2 hya
              have hx2 : (y == c) = false := beq_eq_false_iff_ne.2 (fun e => by
                obtain ⟨j, hj, he⟩ := HF3.out e
                exact HJ.out j hj he)
              have HJ2 := Lib.hid (show ∀ j, j < k + 1 → o[j]? ≠ some a from fun j hj => by
                rcases Nat.lt_succ_iff_lt_or_eq.1 hj with h | rfl
                · exact HJ.out j h
                · rw [HOQ.out]; exact fun e => hya (Option.some.inj e))
              clear HJ HF3 HOQ hya
              go_wp2_with fail
              go_roundw
              case rel => exact ⟨k + 1, hlk, by go_num, HB5.out, HJ2.out⟩
              case measure => simp [intOf] <;> omega
          · obtain rfl : k = o.length := by omega
            clear HJ
            go_wp2_with fail
            all_goals try (exfalso; omega)
            go_ret
            exact ⟨rfl, HB_wr⟩
      · have HY := Lib.hid (HYES.out rfl)
        have HB1 := Lib.hid (Before_any HSO.out _ _ _ l a _ (HS.out.below HB_wr))
        rw [HE2.out] at HB1
        clear HYES HNO HPX HE2
        go_wp2_with fail
        refine (HB1.out).mono ?_
        rintro e w1 ⟨po, pn, pc, rfl, hp1, hb_w1⟩
        have HB_w1 : Below w.heap.size w w1 := by first | exact after0 HB_wr hb_w1 | exact after1 HB_wr hb_w1 | exact after2 HB_wr hb_w1 | exact after3 HB_wr hb_w1 | exact after4 HB_wr hb_w1 | exact after5 HB_wr hb_w1
        obtain rfl := hp1.len
        have hpm1 := hp1.max
        have hpl1 := hp1.le
        unfold maxLen at hpm1
        have HP1 := Lib.hid hp1
        have HB2 := Lib.hid (Before_any HSO.out _ _ _ l c _ (HS.out.below HB_w1))
        rw [HE3.out] at HB2
        clear hp1 HB1 HE3
        go_wp2_with fail
        refine (HB2.out).mono ?_
        rintro e w2 ⟨qo, qn, qc, rfl, hq1, hb_w2⟩
        have HB_w2 : Below w.heap.size w w2 := by first | exact after0 HB_w1 hb_w2 | exact after1 HB_w1 hb_w2 | exact after2 HB_w1 hb_w2 | exact after3 HB_w1 hb_w2 | exact after4 HB_w1 hb_w2 | exact after5 HB_w1 hb_w2
        obtain rfl := hq1.len
        have hqm1 := hq1.max
        have hql1 := hq1.le
        unfold maxLen at hqm1
        have HQ1 := Lib.hid hq1
        have HP2 := Lib.hid (HP1.out.below hb_w2)
        clear hq1 HB2 HP1
        have HO0 := Lib.hid (show OwnL (w2.alloc (.cells #[] 3)) w2.heap.size 3 1 cI (.slice (some ⟨w2.heap.size, 0, none⟩) 0 0) [] from OwnL.made (Nat.le_refl _))
        go_wp2_with (at_builtin; refine wpList_append_sl rfl _ _ 23 rfl w2.heap.size 3 i0 _ 1 8 Try.underlying23 HI.out HZ0.out HZ1.out HZ2.out rfl (by decide) cI_len cI_one _ [] rfl HO0.out po p.length pc p rfl (by first | exact HP2.out.below (grew1 HB_w2) | exact HP2.out.below (grew1 (Below.refl _ _))) (by unfold maxLen; simp; omega) (by simp; omega) (by simp) ?_)
        rintro v_w3 w3 ho hg hgr
        have HO_w3 := Lib.hid ho
        have HB_w3 : Below w.heap.size w w3 := (grew1 HB_w2).trans (hg _ HB_w2.size)
        have hb_w3 := Lib.hid (show Below w2.heap.size w2 w3 from (grew1 (Below.refl _ _)).trans (hg _ (Nat.le_refl _)))
        have hz_w3 : w2.heap.size ≤ w3.heap.size := hb_w3.out.size
        clear ho hg hgr HO0
        go_wp2_with fail
        go_loopw [23, 120] (fun o2 i wr => ∃ (j : Nat) (ys : List Int), j ≤ q.length ∧ i = .int .i64 j ∧ Hid (Below w2.heap.size w2 wr) ∧ Hid (OwnL wr w2.heap.size 3 1 cI o2 ys) ∧ Hid (Gath p (q.take j) ys)) (fun _ i _ => q.length - (intOf i).toNat)
        case atStart => exact ⟨0, p, Nat.zero_le _, rfl, hb_w3.out, HO_w3.out, Gath.start HPN.out⟩
        case round =>
          clear HO_w3 hb_w3 hz_w3 HB_w3 HB_wr
          obtain ⟨j, ys, hj, rfl, HB5, HO, HG⟩ := hrel
          have HB_wr := after0 HB_w2 HB5.out
          have hyl := HG.out.len (l := l) HPM.out (fun x hx => HQM.out x (List.mem_of_mem_take hx))
          obtain ⟨vo, vc, rfl, hss⟩ := HO.out.sl cI_len
          have HSS := Lib.hid hss
          clear hss
          by_cases hlj : j < q.length
          · obtain ⟨b2, off2, rfl, hb2, hrow⟩ := (HQ1.out.below HB5.out).get hlj
            have e_0 := (hrow j hlj).c1
            rw [Nat.mul_one] at e_0
            have HTQ := Lib.hid (show q.take (j + 1) = q.take j ++ [q[j]] by rw [List.take_add_one, List.getElem?_eq_getElem hlj, Option.toList_some])
            clear hrow
            generalize q[j] = x at *
            go_wp2_with fail
            refine (rhas_any _ _ _ ys x _ HSS.out).mono ?_
            rintro e w4 ⟨rfl, hb_w4⟩
            have HB_w4 : Below w.heap.size w w4 := by first | exact after0 HB_wr hb_w4 | exact after1 HB_wr hb_w4 | exact after2 HB_wr hb_w4 | exact after3 HB_wr hb_w4 | exact after4 HB_wr hb_w4 | exact after5 HB_wr hb_w4
            have HO_w4 := Lib.hid (HO.out.below hb_w4)
            have hb54 := Lib.hid (after0 HB5.out hb_w4)
            have hz_w4 : w2.heap.size ≤ w4.heap.size := hb54.out.size
            clear hb_w4
            have hb_w4 := hb54
            cases hc : ys.contains x
            · have HG2 := Lib.hid (HG.out.put hc)
              rw [← HTQ.out] at HG2
              clear hc e_0 HSS HG HO HB5 HB_wr
              have HOX := Lib.hid (HO_w4.out.alloc (.cells #[.int .i64 x] 3))
              have HSX : Hid (Sl (w4.alloc (.cells #[.int .i64 x] 3)) 1 cI (some ⟨w4.heap.size, 0, none⟩) 1 1 [x]) := Sl.one (x := x) cI_len (Box.new w4 (cI x) 3)
              go_wp2_with (at_builtin; refine wpList_append_sl rfl _ _ 23 rfl w2.heap.size 3 i0 _ 1 8 Try.underlying23 HI.out HZ0.out HZ1.out HZ2.out rfl (by decide) cI_len cI_one _ (ys) rfl HOX.out (some ⟨w4.heap.size, 0, none⟩) 1 1 [x] rfl HSX.out (by unfold maxLen; omega) (by omega) (by simp; omega) ?_)
              rintro v_w5 w5 ho hg hgr
              have HO_w5 := Lib.hid ho
              have HB_w5 : Below w.heap.size w w5 := (grew1 HB_w4).trans (hg _ HB_w2.size)
              have hb_w5 := Lib.hid (show Below w2.heap.size w2 w5 from (Below.alloc hb_w4.out hz_w4 _).trans (hg _ (Nat.le_refl _)))
              clear ho hg hgr HOX HSX
              clear HO_w4 hb54 hb_w4
              go_wp2_with fail
              go_roundw
              case rel => exact ⟨j + 1, ys ++ [x], hlj, by go_num, hb_w5.out, HO_w5.out, HG2.out⟩
              case measure => simp [intOf] <;> omega
            · have HG2 := Lib.hid (HG.out.skip hc)
              rw [← HTQ.out] at HG2
              clear hc e_0 HSS HG HO HB5 HB_wr
              go_wp2_with fail
              go_roundw
              case rel => exact ⟨j + 1, ys, hlj, by go_num, hb_w4.out, HO_w4.out, HG2.out⟩
              case measure => simp [intOf] <;> omega
          · obtain rfl : j = q.length := by omega
            rw [List.take_length] at HG
            obtain ⟨p1, p2⟩ := HY.out ys HG.out
            have HF1 := Lib.hid p1
            have HF2 := Lib.hid p2
            clear HG p1 p2 HY HO
            go_wp2_with fail
            refine (sorted_any _ _ _ ys _ HSS.out (by omega)).mono ?_
            rintro e w6 ⟨v6, rfl, ho, hb_w6⟩
            have HB_w6 : Below w.heap.size w w6 := by first | exact after0 HB_wr hb_w6 | exact after1 HB_wr hb_w6 | exact after2 HB_wr hb_w6 | exact after3 HB_wr hb_w6 | exact after4 HB_wr hb_w6 | exact after5 HB_wr hb_w6
            have hzl : (srt ys).length ≤ 30 := by rw [srt_len]; omega
            generalize srt ys = Z at *
            obtain ⟨zo, zc, rfl, hs8⟩ := ho.sl cI_len
            have hzm := hs8.max
            have hzc := hs8.le
            unfold maxLen at hzm
            have HZ_w6 := Lib.hid hs8
            clear ho hs8 HSS
            have HO0 := Lib.hid (show OwnL (w6.alloc (.cells #[] 3)) w6.heap.size 3 1 cI (.slice (some ⟨w6.heap.size, 0, none⟩) 0 0) [] from OwnL.made (Nat.le_refl _))
            go_wp2_with (at_builtin; refine wpList_append_sl rfl _ _ 23 rfl w6.heap.size 3 i0 _ 1 8 Try.underlying23 HI.out HZ0.out HZ1.out HZ2.out rfl (by decide) cI_len cI_one _ [] rfl HO0.out zo Z.length zc Z rfl (by first | exact HZ_w6.out.below (grew1 HB_w6) | exact HZ_w6.out.below (grew1 (Below.refl _ _))) (by unfold maxLen; simp; omega) (by simp; omega) (by simp) ?_)
            rintro v_x1 x1 ho hg hgr
            have HO_x1 := Lib.hid ho
            have HB_x1 : Below w.heap.size w x1 := (grew1 HB_w6).trans (hg _ HB_w6.size)
            have hb_x1 := Lib.hid (show Below w6.heap.size w6 x1 from (grew1 (Below.refl _ _)).trans (hg _ (Nat.le_refl _)))
            have hz_x1 : w6.heap.size ≤ x1.heap.size := hb_x1.out.size
            clear ho hg hgr HO0
            have HOX := Lib.hid (HO_x1.out.alloc (.cells #[.int .i64 a, .int .i64 c] 3))
            have HSX : Hid (Sl (x1.alloc (.cells #[.int .i64 a, .int .i64 c] 3)) 1 cI (some ⟨x1.heap.size, 0, none⟩) 2 2 [a, c]) := lit_new x1 [a, c] (by simp)
            go_wp2_with (at_builtin; refine wpList_append_sl rfl _ _ 23 rfl w6.heap.size 3 i0 _ 1 8 Try.underlying23 HI.out HZ0.out HZ1.out HZ2.out rfl (by decide) cI_len cI_one _ (Z) rfl HOX.out (some ⟨x1.heap.size, 0, none⟩) 2 2 [a, c] rfl HSX.out (by unfold maxLen; omega) (by omega) (by simp; omega) ?_)
            rintro v_x2 x2 ho hg hgr
            have HO_x2 := Lib.hid ho
            have HB_x2 : Below w.heap.size w x2 := (grew1 HB_x1).trans (hg _ HB_w6.size)
            have hb_x2 := Lib.hid (show Below w6.heap.size w6 x2 from (Below.alloc hb_x1.out hz_x1 _).trans (hg _ (Nat.le_refl _)))
            clear ho hg hgr HOX HSX
            obtain ⟨vo9, vc9, rfl, hss⟩ := OwnL.sl cI_len HO_x2.out
            rw [show (Z ++ [a, c]).length = Z.length + 2 by simp] at hss ⊢
            have HPC := Lib.hid (Permitted_any _ _ _ l _ _ _ (Z ++ [a, c]) _ (HS.out.below HB_x2) hss)
            rw [HF1.out] at HPC
            clear hss HO_x1 HO_x2 hb_x1 hz_x1
            go_wp2_with fail
            refine (HPC.out).mono ?_
            rintro e x3 ⟨rfl, hb_x3⟩
            have HB_x3 : Below w.heap.size w x3 := by first | exact after0 HB_x2 hb_x3 | exact after1 HB_x2 hb_x3 | exact after2 HB_x2 hb_x3 | exact after3 HB_x2 hb_x3 | exact after4 HB_x2 hb_x3 | exact after5 HB_x2 hb_x3
            have HZ_x3 := Lib.hid (HZ_w6.out.below (after0 hb_x2.out hb_x3))
            clear HPC hb_x2 HZ_w6
            have HO0 := Lib.hid (show OwnL (x3.alloc (.cells #[] 3)) x3.heap.size 3 1 cI (.slice (some ⟨x3.heap.size, 0, none⟩) 0 0) [] from OwnL.made (Nat.le_refl _))
            go_wp2_with (at_builtin; refine wpList_append_sl rfl _ _ 23 rfl x3.heap.size 3 i0 _ 1 8 Try.underlying23 HI.out HZ0.out HZ1.out HZ2.out rfl (by decide) cI_len cI_one _ [] rfl HO0.out zo Z.length zc Z rfl (by first | exact HZ_x3.out.below (grew1 HB_x3) | exact HZ_x3.out.below (grew1 (Below.refl _ _))) (by unfold maxLen; simp; omega) (by simp; omega) (by simp) ?_)
            rintro v_y1 y1 ho hg hgr
            have HO_y1 := Lib.hid ho
            have HB_y1 : Below w.heap.size w y1 := (grew1 HB_x3).trans (hg _ HB_x3.size)
            have hb_y1 := Lib.hid (show Below x3.heap.size x3 y1 from (grew1 (Below.refl _ _)).trans (hg _ (Nat.le_refl _)))
            have hz_y1 : x3.heap.size ≤ y1.heap.size := hb_y1.out.size
            clear ho hg hgr HO0
            have HOX := Lib.hid (HO_y1.out.alloc (.cells #[.int .i64 c, .int .i64 a] 3))
            have HSX : Hid (Sl (y1.alloc (.cells #[.int .i64 c, .int .i64 a] 3)) 1 cI (some ⟨y1.heap.size, 0, none⟩) 2 2 [c, a]) := lit_new y1 [c, a] (by simp)
            go_wp2_with (at_builtin; refine wpList_append_sl rfl _ _ 23 rfl x3.heap.size 3 i0 _ 1 8 Try.underlying23 HI.out HZ0.out HZ1.out HZ2.out rfl (by decide) cI_len cI_one _ (Z) rfl HOX.out (some ⟨y1.heap.size, 0, none⟩) 2 2 [c, a] rfl HSX.out (by unfold maxLen; omega) (by omega) (by simp; omega) ?_)
            rintro v_y2 y2 ho hg hgr
            have HO_y2 := Lib.hid ho
            have HB_y2 : Below w.heap.size w y2 := (grew1 HB_y1).trans (hg _ HB_x3.size)
            have hb_y2 := Lib.hid (show Below x3.heap.size x3 y2 from (Below.alloc hb_y1.out hz_y1 _).trans (hg _ (Nat.le_refl _)))
            clear ho hg hgr HOX HSX
            obtain ⟨vo9, vc9, rfl, hss⟩ := OwnL.sl cI_len HO_y2.out
            rw [show (Z ++ [c, a]).length = Z.length + 2 by simp] at hss ⊢
            have HPC := Lib.hid (Permitted_any _ _ _ l _ _ _ (Z ++ [c, a]) _ (HS.out.below HB_y2) hss)
            rw [HF2.out] at HPC
            clear hss HO_y1 HO_y2 hb_y1 hz_y1
            go_wp2_with fail
            refine (HPC.out).mono ?_
            rintro e y3 ⟨rfl, hb_y3⟩
            have HB_y3 : Below w.heap.size w y3 := by first | exact after0 HB_y2 hb_y3 | exact after1 HB_y2 hb_y3 | exact after2 HB_y2 hb_y3 | exact after3 HB_y2 hb_y3 | exact after4 HB_y2 hb_y3 | exact after5 HB_y2 hb_y3
            have HZ_y3 := Lib.hid (HZ_x3.out.below (after0 hb_y2.out hb_y3))
            clear HPC hb_y2 HZ_x3
            go_wp2_with fail
            go_ret
            exact ⟨rfl, HB_y3⟩
end Go.Proofs.Ytofilkphaelceaa
