/-
  The reference functions of the layer 'follow', walked: Valid, ready, Ready, copied.
-/
import Derived.Test.YtofilkphaelceaaFoRa
set_option linter.unusedVariables false
namespace Go.Proofs.Ytofilkphaelceaa
open Go Go.RowKit Fo Sk Go.Sort


set_option maxRecDepth 100000 in
set_option maxHeartbeats 8000000 in
theorem rvalid_any (ao : Option Addr) (n cap : Nat) (l : List St) (w : World) (hs : SlS w ao n cap l) : Calls Try.prog 14 #[.slice ao n cap] w (Ret w (.bool (valid l))) := by
  obtain rfl := hs.1.len
  have hcap := hs.1.max
  have hle := hs.1.le
  unfold maxLen at hcap
  have HS0 := Lib.hid hs
  have HB_w : Below w.heap.size w w := Below.refl _ _
  have HF := Lib.hid (fun k h => @valid_bad l k h)
  have HL := Lib.hid (@valid_long l)
  have HT := Lib.hid (@valid_good l)
  clear hs
  generalize hv : valid l = v at *
  clear hv
  go_enter Try.func14, Try.ntmps14
  by_cases h9 : 200 < l.length
  · have HP := Lib.hid (HL.out h9)
    have h9i : 200 < (l.length : Int) := by omega
    go_wp2_with fail
    all_goals try (exfalso; omega)
    go_ret
    exact ⟨ret_bool' HP.out.symm, HB_w⟩
  have h9i : (l.length : Int) ≤ 200 := by omega
  go_wp2_with fail
  all_goals try (exfalso; omega)
  go_loopw [3] (fun i wr => ∃ k : Nat, k ≤ l.length ∧ i = .int .i64 k ∧ Below w.heap.size w wr ∧ Hid (∀ k' (h : k' < l.length), k' < k → GoodAt l k' l[k'])) (fun i _ => l.length - (intOf i).toNat)
  case atStart => exact ⟨0, Nat.zero_le _, rfl, HB_w, fun i _ h => absurd h (Nat.not_lt_zero _)⟩
  case round =>
    obtain ⟨k, hk, rfl, HB_wr, HJ⟩ := hrel
    by_cases hlt : k < l.length
    · have HS1 := Lib.hid (HS0.out.below HB_wr)
      obtain ⟨b', off, rfl, hb, hrow⟩ := HS1.out.1.get hlt
      obtain ⟨e_0, e_1⟩ := (hrow k hlt).c2
      have HSO := Lib.hid (HS1.out.2 _ (List.getElem_mem hlt))
      have HBD := Lib.hid (HF.out k hlt)
      have HNX := Lib.hid (show GoodAt l k l[k] → (∀ k' (h : k' < l.length), k' < k + 1 → GoodAt l k' l[k']) from fun h1 i hi hik => by
        rcases Nat.lt_succ_iff_lt_or_eq.1 hik with h | rfl
        · exact HJ.out i hi h
        · exact h1)
      have HCL := Lib.hid (fun j (hj : j < l.length) => (hrow j hj).c2)
      clear hrow HJ
      generalize hx : l[k] = x at *
      clear hx
      obtain ⟨s0, s1, s2, s3, s4⟩ := x
      obtain rfl : s4.length = s2 := HSO.out.1.len
      dsimp only at e_0 e_1 HSO HBD HNX
      go_wp2_with fail
      refine (rnumber_any s0 _).mono ?_
      rintro e wa ⟨rfl, hb_wa⟩
      have HB_wa : Below w.heap.size w wa := by first | exact after0 HB_wr hb_wa | exact after1 HB_wr hb_wa | exact after2 HB_wr hb_wa | exact after3 HB_wr hb_wa | exact after4 HB_wr hb_wa | exact after5 HB_wr hb_wa
      have HCA := Lib.hid (fun j (hj : j < l.length) => (hb_wa.cell (p := ⟨b', off + j * 2, none⟩) hb).trans (HCL.out j hj).1)
      have E0 := Lib.hid ((hb_wa.cell (p := ⟨b', off + k * 2, none⟩) hb).trans e_0)
      have E1 := Lib.hid ((hb_wa.cell (p := ⟨b', off + k * 2 + 1, none⟩) hb).trans e_1)
      replace HSO := Lib.hid (HSO.out.below hb_wa)
      have HS2 := Lib.hid (HS1.out.1.below hb_wa)
      have hba := hb_wa.size
      have hb2 : b' < wa.heap.size := by omega
      clear e_0 e_1 HCL HS1 HS0 hb hb_wa
      cases hn : isNum s0
      · have HP := Lib.hid (HBD.out (.inl hn))
        clear hn HNX HBD
        go_wp2_with fail
        refine wp_region_plan (C := fun w' => ∃ p : Regrown, w' = grow (redrawn wa p.d) p.os) (.q 0 (.q 1 (.q 2 (.q 3 (.q 4 (.q 5 (.q 6 (.q 7 (.q 8 (.q 9 (.q 10 (.q 11 (.q 12 (.q 13 (.q 14 (.q 15 (.q 16 (.q 17 (.q 18 (.q 19 (.done))))))))))))))))))))) 20 (by kernel_rfl) (by kernel_rfl) (grew_drew _) ?_
        repeat (any_goals (first | (go_big_quiet_skip; refine wpQuiet_nil ?_) | (go_big_quiet_want; go_big_quiet_op; go_big_quiet_on; refine wpQuiet_nil ?_) | ((with_reducible apply q_split); exact rfl; intro q hq; cases q <;> (rw [hq]; (try first | replace hq := bnot_t hq | replace hq := bnot_f hq); (try first | replace hq := of_decide_eq_true hq | replace hq := of_decide_eq_false hq | replace hq := eq_of_beq hq); (try first | replace hq := Int.not_lt.1 hq | replace hq := Int.not_le.1 hq | replace hq := Nat.not_lt.1 hq | replace hq := Nat.not_le.1 hq); try (exfalso; omega))) | (refine plan_q rfl rfl ?_)))
        all_goals refine plan_done ?_
        all_goals (try simp only [List.drop_succ_cons, List.drop_zero])
        all_goals (try go_wp2_with fail)
        all_goals refine NoPanic.normal ?_
        all_goals (try go_wp2_with fail)
        go_ret
        exact ⟨ret_bool' HP.out.symm, HB_wa.drew⟩
      have HN1 := Lib.hid (fun (h1 : ∀ j t, k = j + 1 → l[j]? = some t → t.n < s0) (h2 : UpTo l ⟨s0, s1, s4.length, s3, s4⟩ s4.length) => HNX.out ⟨hn, h1, h2⟩)
      have HB1 := Lib.hid (fun h => HBD.out (.inr h))
      clear HNX HBD
      rcases k with _ | j
      · have HN2 := Lib.hid (HN1.out (fun j y h => by omega))
        clear hn HN1
        go_wp2_with fail
        refine wp_region_plan (C := fun w' => ∃ p : Regrown, w' = grow (redrawn wa p.d) p.os) (.q 0 (.q 1 (.q 2 (.q 3 (.q 4 (.q 5 (.q 6 (.q 7 (.q 8 (.q 9 (.q 10 (.q 11 (.q 12 (.q 13 (.q 14 (.q 15 (.q 16 (.q 17 (.q 18 (.q 19 (.done))))))))))))))))))))) 20 (by kernel_rfl) (by kernel_rfl) (grew_drew _) ?_
        repeat (any_goals (first | (go_big_quiet_skip; refine wpQuiet_nil ?_) | (go_big_quiet_want; go_big_quiet_op; go_big_quiet_on; refine wpQuiet_nil ?_) | ((with_reducible apply q_split); exact rfl; intro q hq; cases q <;> (rw [hq]; (try first | replace hq := bnot_t hq | replace hq := bnot_f hq); (try first | replace hq := of_decide_eq_true hq | replace hq := of_decide_eq_false hq | replace hq := eq_of_beq hq); (try first | replace hq := Int.not_lt.1 hq | replace hq := Int.not_le.1 hq | replace hq := Nat.not_lt.1 hq | replace hq := Nat.not_le.1 hq); try (exfalso; omega))) | (refine plan_q rfl rfl ?_)))
        all_goals refine plan_done ?_
        all_goals (try simp only [List.drop_succ_cons, List.drop_zero])
        all_goals (try go_wp2_with fail)
        all_goals refine NoPanic.normal ?_
        all_goals (try go_wp2_with fail)
        go_loopw [5] (fun i wv => ∃ m : Nat, m ≤ s4.length ∧ i = .int .i64 m ∧ Hid (Below wa.heap.size wa wv) ∧ Hid (UpTo l ⟨s0, s1, s4.length, s3, s4⟩ m)) (fun i _ => s4.length - (intOf i).toNat)
        case atStart => exact ⟨0, Nat.zero_le _, rfl, (Below.refl _ _).drew, upTo_zero _ _⟩
        case round =>
          obtain ⟨m, hm, rfl, HB5, HU⟩ := hrel
          have HB_wr := after0 HB_wa HB5.out
          have e_0 := (HB5.out.cell (p := ⟨b', off + 0 * 2, none⟩) hb2).trans E0.out
          have e_1 := (HB5.out.cell (p := ⟨b', off + 0 * 2 + 1, none⟩) hb2).trans E1.out
          try simp only [Nat.zero_mul, Nat.add_zero] at e_0 e_1
          by_cases hlm : m < s4.length
          · have hsl : Sl wr 1 cI s1 s4.length s3 s4 := (HSO.out.below HB5.out).1
            have hslm := hsl.max
            have hsll := hsl.le
            unfold maxLen at hslm
            obtain ⟨b3, off3, rfl, hb3, hrow3⟩ := hsl.get hlm
            have f_0 := (hrow3 m hlm).c1
            rw [Nat.mul_one] at f_0
            have HBM := Lib.hid (fun h => HB1.out (.inr ⟨m, hlm, h⟩))
            have HUN := Lib.hid (upTo_succ HU.out hlm)
            dsimp only at HBM HUN
            have HX := Lib.hid (show ∀ W, Below wr.heap.size wr W → Calls Try.prog 39 #[.slice (some ⟨b', off, none⟩) l.length cap, .int .i64 s4[m]] W (Ret W (.int .i64 (idxS l s4[m]))) from fun W hW => rindex_any _ _ _ l _ W (HS2.out.below (after0 HB5.out hW)))
            have HFL := Lib.hid (fun j (hj : j < s4.length) => (hrow3 j hj).c1)
            clear hrow3 hsl HU HSO
            generalize s4[m] = a at *
            rcases m with _ | j
            · simp only [Nat.add_zero] at f_0
              by_cases h2 : s0 ≤ a
              · have HP := Lib.hid (HBM.out (.inr (.inl h2)))
                clear HBM HUN HX HB1 HN2
                go_wp2_with fail
                all_goals try (exfalso; omega)
                go_ret
                exact ⟨ret_bool' HP.out.symm, HB_wr⟩
              · have h2' : a < s0 := by omega
                clear h2
                rcases idxS_cases l a with ⟨e1, e2⟩ | ⟨q, hq, e1, e2, e3⟩
                · have HP := Lib.hid (HBM.out (.inr (.inr e1)))
                  rw [e1] at HX
                  clear HBM HUN e1 e2 HN2
                  go_wp2_with fail
                  all_goals try (exfalso; omega)
                  refine (HX.out _ (Below.refl _ _)).mono ?_
                  rintro e wc ⟨rfl, hb_wc⟩
                  have HB_wc : Below w.heap.size w wc := by first | exact after0 HB_wr hb_wc | exact after1 HB_wr hb_wc | exact after2 HB_wr hb_wc | exact after3 HB_wr hb_wc | exact after4 HB_wr hb_wc | exact after5 HB_wr hb_wc
                  go_wp2_with fail
                  all_goals try (exfalso; omega)
                  go_ret
                  exact ⟨ret_bool' HP.out.symm, HB_wc⟩
                · have HU2 := Lib.hid (HUN.out (fun j y h => by omega) (by omega) ⟨_, List.getElem_mem hq, e2⟩)
                  rw [e1] at HX
                  clear HBM HUN e1 e2 e3 hq HB1
                  go_wp2_with fail
                  all_goals try (exfalso; omega)
                  refine (HX.out _ (Below.refl _ _)).mono ?_
                  rintro e wc ⟨rfl, hb_wc⟩
                  have HB_wc : Below w.heap.size w wc := by first | exact after0 HB_wr hb_wc | exact after1 HB_wr hb_wc | exact after2 HB_wr hb_wc | exact after3 HB_wr hb_wc | exact after4 HB_wr hb_wc | exact after5 HB_wr hb_wc
                  have HB5c := after0 HB5.out hb_wc
                  go_wp2_with fail
                  all_goals try (exfalso; omega)
                  go_roundw
                  case rel => exact ⟨_, hlm, by go_num, HB5c, HU2⟩
                  case measure => simp [intOf] <;> omega
            · have hj : j < s4.length := by omega
              have g_0 := HFL.out j hj
              rw [Nat.mul_one] at g_0
              have HYJ := Lib.hid (List.getElem?_eq_getElem hj)
              generalize s4[j] = y at *
              by_cases h1 : a ≤ y
              · have HP := Lib.hid (HBM.out (.inl ⟨j, y, rfl, HYJ.out, h1⟩))
                clear HBM HUN HX HB1 HN2
                go_wp2_with fail
                all_goals try (exfalso; omega)
                go_ret
                exact ⟨ret_bool' HP.out.symm, HB_wr⟩
              · have h1' : y < a := by omega
                clear h1
                by_cases h2 : s0 ≤ a
                · have HP := Lib.hid (HBM.out (.inr (.inl h2)))
                  clear HBM HUN HX HB1 HN2
                  go_wp2_with fail
                  all_goals try (exfalso; omega)
                  go_ret
                  exact ⟨ret_bool' HP.out.symm, HB_wr⟩
                · have h2' : a < s0 := by omega
                  clear h2
                  rcases idxS_cases l a with ⟨e1, e2⟩ | ⟨q, hq, e1, e2, e3⟩
                  · have HP := Lib.hid (HBM.out (.inr (.inr e1)))
                    rw [e1] at HX
                    clear HBM HUN e1 e2 HN2
                    go_wp2_with fail
                    all_goals try (exfalso; omega)
                    refine (HX.out _ (Below.refl _ _)).mono ?_
                    rintro e wc ⟨rfl, hb_wc⟩
                    have HB_wc : Below w.heap.size w wc := by first | exact after0 HB_wr hb_wc | exact after1 HB_wr hb_wc | exact after2 HB_wr hb_wc | exact after3 HB_wr hb_wc | exact after4 HB_wr hb_wc | exact after5 HB_wr hb_wc
                    go_wp2_with fail
                    all_goals try (exfalso; omega)
                    go_ret
                    exact ⟨ret_bool' HP.out.symm, HB_wc⟩
                  · have HU2 := Lib.hid (HUN.out (fun j' y' h h3 => by obtain rfl : j' = j := (by omega); rw [HYJ.out] at h3; cases h3; exact h1') (by omega) ⟨_, List.getElem_mem hq, e2⟩)
                    rw [e1] at HX
                    clear HBM HUN e1 e2 e3 hq HB1
                    go_wp2_with fail
                    all_goals try (exfalso; omega)
                    refine (HX.out _ (Below.refl _ _)).mono ?_
                    rintro e wc ⟨rfl, hb_wc⟩
                    have HB_wc : Below w.heap.size w wc := by first | exact after0 HB_wr hb_wc | exact after1 HB_wr hb_wc | exact after2 HB_wr hb_wc | exact after3 HB_wr hb_wc | exact after4 HB_wr hb_wc | exact after5 HB_wr hb_wc
                    have HB5c := after0 HB5.out hb_wc
                    go_wp2_with fail
                    all_goals try (exfalso; omega)
                    go_roundw
                    case rel => exact ⟨_, hlm, by go_num, HB5c, HU2⟩
                    case measure => simp [intOf] <;> omega
          · obtain rfl : m = s4.length := by omega
            have HN3 := Lib.hid (HN2.out HU.out)
            clear HN2 HU HB1
            go_wp2_with fail
            go_roundw
            case rel => exact ⟨0 + 1, hlt, by go_num, HB_wr, HN3⟩
            case measure => simp [intOf] <;> omega
      · have hj : j < l.length := by omega
        have d_0 := HCA.out j hj
        have HYJ := Lib.hid (List.getElem?_eq_getElem hj)
        generalize l[j] = y at *
        by_cases hxy : s0 ≤ y.n
        · have HP := Lib.hid (HB1.out (.inl ⟨j, y, rfl, HYJ.out, hxy⟩))
          clear hn HN1 HB1
          have e_0 := E0.out
          generalize y.n = yn at *
          go_wp2_with fail
          have y_e_0 := cell_regrown e_0
          clear e_0
          have y_d_0 := cell_regrown d_0
          clear d_0
          refine wp_region_plan (C := fun w' => ∃ p : Regrown, w' = grow (redrawn wa p.d) p.os) (.q 0 (.q 1 (.q 2 (.q 3 (.q 4 (.q 5 (.q 6 (.q 7 (.q 8 (.q 9 (.q 10 (.q 11 (.q 12 (.q 13 (.q 14 (.q 15 (.q 16 (.q 17 (.q 18 (.q 19 (.done))))))))))))))))))))) 20 (by kernel_rfl) (by kernel_rfl) (grew_drew _) ?_
          repeat (any_goals (first | (go_big_quiet_skip; refine wpQuiet_nil ?_) | (go_big_quiet_want; go_big_quiet_op; go_big_quiet_on; refine wpQuiet_nil ?_) | ((with_reducible apply q_split); exact rfl; intro q hq; cases q <;> (rw [hq]; (try first | replace hq := bnot_t hq | replace hq := bnot_f hq); (try first | replace hq := of_decide_eq_true hq | replace hq := of_decide_eq_false hq | replace hq := eq_of_beq hq); (try first | replace hq := Int.not_lt.1 hq | replace hq := Int.not_le.1 hq | replace hq := Nat.not_lt.1 hq | replace hq := Nat.not_le.1 hq); try (exfalso; omega))) | (refine plan_q rfl rfl ?_)))
          clear y_e_0
          clear y_d_0
          all_goals refine plan_done ?_
          all_goals (try simp only [List.drop_succ_cons, List.drop_zero])
          all_goals (try go_wp2_with fail)
          all_goals refine NoPanic.normal ?_
          all_goals (try go_wp2_with fail)
          go_ret
          exact ⟨ret_bool' HP.out.symm, HB_wa.drew⟩
        · have hxy2 : y.n < s0 := by omega
          have HN2 := Lib.hid (HN1.out (fun j' y' h1 h2 => by
            obtain rfl : j' = j := by omega
            rw [HYJ.out] at h2
            cases h2
            exact hxy2))
          clear hn HN1 hxy
          have e_0 := E0.out
          generalize y.n = yn at *
          go_wp2_with fail
          have y_e_0 := cell_regrown e_0
          clear e_0
          have y_d_0 := cell_regrown d_0
          clear d_0
          refine wp_region_plan (C := fun w' => ∃ p : Regrown, w' = grow (redrawn wa p.d) p.os) (.q 0 (.q 1 (.q 2 (.q 3 (.q 4 (.q 5 (.q 6 (.q 7 (.q 8 (.q 9 (.q 10 (.q 11 (.q 12 (.q 13 (.q 14 (.q 15 (.q 16 (.q 17 (.q 18 (.q 19 (.done))))))))))))))))))))) 20 (by kernel_rfl) (by kernel_rfl) (grew_drew _) ?_
          repeat (any_goals (first | (go_big_quiet_skip; refine wpQuiet_nil ?_) | (go_big_quiet_want; go_big_quiet_op; go_big_quiet_on; refine wpQuiet_nil ?_) | ((with_reducible apply q_split); exact rfl; intro q hq; cases q <;> (rw [hq]; (try first | replace hq := bnot_t hq | replace hq := bnot_f hq); (try first | replace hq := of_decide_eq_true hq | replace hq := of_decide_eq_false hq | replace hq := eq_of_beq hq); (try first | replace hq := Int.not_lt.1 hq | replace hq := Int.not_le.1 hq | replace hq := Nat.not_lt.1 hq | replace hq := Nat.not_le.1 hq); try (exfalso; omega))) | (refine plan_q rfl rfl ?_)))
          clear y_e_0
          clear y_d_0
          all_goals refine plan_done ?_
          all_goals (try simp only [List.drop_succ_cons, List.drop_zero])
          all_goals (try go_wp2_with fail)
          all_goals refine NoPanic.normal ?_
          all_goals (try go_wp2_with fail)
          go_loopw [5] (fun i wv => ∃ m : Nat, m ≤ s4.length ∧ i = .int .i64 m ∧ Hid (Below wa.heap.size wa wv) ∧ Hid (UpTo l ⟨s0, s1, s4.length, s3, s4⟩ m)) (fun i _ => s4.length - (intOf i).toNat)
          case atStart => exact ⟨0, Nat.zero_le _, rfl, (Below.refl _ _).drew, upTo_zero _ _⟩
          case round =>
            obtain ⟨m, hm, rfl, HB5, HU⟩ := hrel
            have HB_wr := after0 HB_wa HB5.out
            have e_0 := (HB5.out.cell (p := ⟨b', off + (j + 1) * 2, none⟩) hb2).trans E0.out
            have e_1 := (HB5.out.cell (p := ⟨b', off + (j + 1) * 2 + 1, none⟩) hb2).trans E1.out
            try simp only [Nat.zero_mul, Nat.add_zero] at e_0 e_1
            by_cases hlm : m < s4.length
            · have hsl : Sl wr 1 cI s1 s4.length s3 s4 := (HSO.out.below HB5.out).1
              have hslm := hsl.max
              have hsll := hsl.le
              unfold maxLen at hslm
              obtain ⟨b3, off3, rfl, hb3, hrow3⟩ := hsl.get hlm
              have f_0 := (hrow3 m hlm).c1
              rw [Nat.mul_one] at f_0
              have HBM := Lib.hid (fun h => HB1.out (.inr ⟨m, hlm, h⟩))
              have HUN := Lib.hid (upTo_succ HU.out hlm)
              dsimp only at HBM HUN
              have HX := Lib.hid (show ∀ W, Below wr.heap.size wr W → Calls Try.prog 39 #[.slice (some ⟨b', off, none⟩) l.length cap, .int .i64 s4[m]] W (Ret W (.int .i64 (idxS l s4[m]))) from fun W hW => rindex_any _ _ _ l _ W (HS2.out.below (after0 HB5.out hW)))
              have HFL := Lib.hid (fun j (hj : j < s4.length) => (hrow3 j hj).c1)
              clear hrow3 hsl HU HSO
              generalize s4[m] = a at *
              rcases m with _ | j
              · simp only [Nat.add_zero] at f_0
                by_cases h2 : s0 ≤ a
                · have HP := Lib.hid (HBM.out (.inr (.inl h2)))
                  clear HBM HUN HX HB1 HN2
                  go_wp2_with fail
                  all_goals try (exfalso; omega)
                  go_ret
                  exact ⟨ret_bool' HP.out.symm, HB_wr⟩
                · have h2' : a < s0 := by omega
                  clear h2
                  rcases idxS_cases l a with ⟨e1, e2⟩ | ⟨q, hq, e1, e2, e3⟩
                  · have HP := Lib.hid (HBM.out (.inr (.inr e1)))
                    rw [e1] at HX
                    clear HBM HUN e1 e2 HN2
                    go_wp2_with fail
                    all_goals try (exfalso; omega)
                    refine (HX.out _ (Below.refl _ _)).mono ?_
                    rintro e wc ⟨rfl, hb_wc⟩
                    have HB_wc : Below w.heap.size w wc := by first | exact after0 HB_wr hb_wc | exact after1 HB_wr hb_wc | exact after2 HB_wr hb_wc | exact after3 HB_wr hb_wc | exact after4 HB_wr hb_wc | exact after5 HB_wr hb_wc
                    go_wp2_with fail
                    all_goals try (exfalso; omega)
                    go_ret
                    exact ⟨ret_bool' HP.out.symm, HB_wc⟩
                  · have HU2 := Lib.hid (HUN.out (fun j y h => by omega) (by omega) ⟨_, List.getElem_mem hq, e2⟩)
                    rw [e1] at HX
                    clear HBM HUN e1 e2 e3 hq HB1
                    go_wp2_with fail
                    all_goals try (exfalso; omega)
                    refine (HX.out _ (Below.refl _ _)).mono ?_
                    rintro e wc ⟨rfl, hb_wc⟩
                    have HB_wc : Below w.heap.size w wc := by first | exact after0 HB_wr hb_wc | exact after1 HB_wr hb_wc | exact after2 HB_wr hb_wc | exact after3 HB_wr hb_wc | exact after4 HB_wr hb_wc | exact after5 HB_wr hb_wc
                    have HB5c := after0 HB5.out hb_wc
                    go_wp2_with fail
                    all_goals try (exfalso; omega)
                    go_roundw
                    case rel => exact ⟨_, hlm, by go_num, HB5c, HU2⟩
                    case measure => simp [intOf] <;> omega
              · have hj : j < s4.length := by omega
                have g_0 := HFL.out j hj
                rw [Nat.mul_one] at g_0
                have HYJ := Lib.hid (List.getElem?_eq_getElem hj)
                generalize s4[j] = y at *
                by_cases h1 : a ≤ y
                · have HP := Lib.hid (HBM.out (.inl ⟨j, y, rfl, HYJ.out, h1⟩))
                  clear HBM HUN HX HB1 HN2
                  go_wp2_with fail
                  all_goals try (exfalso; omega)
                  go_ret
                  exact ⟨ret_bool' HP.out.symm, HB_wr⟩
                · have h1' : y < a := by omega
                  clear h1
                  by_cases h2 : s0 ≤ a
                  · have HP := Lib.hid (HBM.out (.inr (.inl h2)))
                    clear HBM HUN HX HB1 HN2
                    go_wp2_with fail
                    all_goals try (exfalso; omega)
                    go_ret
                    exact ⟨ret_bool' HP.out.symm, HB_wr⟩
                  · have h2' : a < s0 := by omega
                    clear h2
                    rcases idxS_cases l a with ⟨e1, e2⟩ | ⟨q, hq, e1, e2, e3⟩
                    · have HP := Lib.hid (HBM.out (.inr (.inr e1)))
                      rw [e1] at HX
                      clear HBM HUN e1 e2 HN2
                      go_wp2_with fail
                      all_goals try (exfalso; omega)
                      refine (HX.out _ (Below.refl _ _)).mono ?_
                      rintro e wc ⟨rfl, hb_wc⟩
                      have HB_wc : Below w.heap.size w wc := by first | exact after0 HB_wr hb_wc | exact after1 HB_wr hb_wc | exact after2 HB_wr hb_wc | exact after3 HB_wr hb_wc | exact after4 HB_wr hb_wc | exact after5 HB_wr hb_wc
                      go_wp2_with fail
                      all_goals try (exfalso; omega)
                      go_ret
                      exact ⟨ret_bool' HP.out.symm, HB_wc⟩
                    · have HU2 := Lib.hid (HUN.out (fun j' y' h h3 => by obtain rfl : j' = j := (by omega); rw [HYJ.out] at h3; cases h3; exact h1') (by omega) ⟨_, List.getElem_mem hq, e2⟩)
                      rw [e1] at HX
                      clear HBM HUN e1 e2 e3 hq HB1
                      go_wp2_with fail
                      all_goals try (exfalso; omega)
                      refine (HX.out _ (Below.refl _ _)).mono ?_
                      rintro e wc ⟨rfl, hb_wc⟩
                      have HB_wc : Below w.heap.size w wc := by first | exact after0 HB_wr hb_wc | exact after1 HB_wr hb_wc | exact after2 HB_wr hb_wc | exact after3 HB_wr hb_wc | exact after4 HB_wr hb_wc | exact after5 HB_wr hb_wc
                      have HB5c := after0 HB5.out hb_wc
                      go_wp2_with fail
                      all_goals try (exfalso; omega)
                      go_roundw
                      case rel => exact ⟨_, hlm, by go_num, HB5c, HU2⟩
                      case measure => simp [intOf] <;> omega
            · obtain rfl : m = s4.length := by omega
              have HN3 := Lib.hid (HN2.out HU.out)
              clear HN2 HU HB1
              go_wp2_with fail
              go_roundw
              case rel => exact ⟨(j + 1) + 1, hlt, by go_num, HB_wr, HN3⟩
              case measure => simp [intOf] <;> omega
    · have HP := Lib.hid (HT.out (by omega) (fun i h => HJ.out i h (by omega)))
      clear HJ
      go_wp2_with fail
      all_goals try (exfalso; omega)
      go_ret
      exact ⟨ret_bool' HP.out.symm, HB_wr⟩
end Go.Proofs.Ytofilkphaelceaa
