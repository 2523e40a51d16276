/-
  The law EyesTwo.
-/
import Derived.Test.YtmbnhlihcnbebaaEyQ
import Derived.Test.YtmbnhlihcnbebaaEyTt
set_option linter.unusedVariables false
namespace Ey
/-- up to a pair: if one is as the law asks, it is found -/
def FoundIn (x t p q : Int) (b : Bx) (l : List Ac) (i j : Nat) (f : Bool) : Prop := ∀ i' j' a c, i' < j' → (i' < i ∨ i' = i ∧ j' < j) → l[i']? = some a → l[j']? = some c → twoC x t p q b a c → f = true
theorem FoundIn.zero (x t p q : Int) (b : Bx) (l : List Ac) (f : Bool) : FoundIn x t p q b l 0 0 f := fun i' j' a c _ h => by omega
theorem FoundIn.start {x t p q : Int} {b : Bx} {l : List Ac} {i : Nat} {f : Bool} (h : FoundIn x t p q b l i 0 f) : FoundIn x t p q b l i (i + 1) f := fun i' j' a c h1 h2 => h i' j' a c h1 (by omega)
theorem FoundIn.next {x t p q : Int} {b : Bx} {l : List Ac} {i : Nat} {f : Bool} (h : FoundIn x t p q b l i l.length f) : FoundIn x t p q b l (i + 1) 0 f := fun i' j' a c h1 h2 h3 h4 => h i' j' a c h1 (by have := (List.getElem?_eq_some_iff.1 h4).1; omega) h3 h4
theorem FoundIn.yes {x t p q : Int} {b : Bx} {l : List Ac} {i j : Nat} : FoundIn x t p q b l i j true := fun _ _ _ _ _ _ _ _ _ => rfl
theorem FoundIn.no {x t p q : Int} {b : Bx} {l : List Ac} {i j : Nat} {f : Bool} (h : FoundIn x t p q b l i j f) {a c : Ac} (ha : l[i]? = some a) (hc : l[j]? = some c) (hn : ¬ twoC x t p q b a c) : FoundIn x t p q b l i (j + 1) f := fun i' j' a' c' h1 h2 h3 h4 h5 => by
  by_cases hij : i' = i ∧ j' = j
  · obtain ⟨rfl, rfl⟩ := hij
    obtain rfl := Option.some.inj (ha.symm.trans h3)
    obtain rfl := Option.some.inj (hc.symm.trans h4)
    exact absurd h5 hn
  · exact h i' j' a' c' h1 (by omega) h3 h4 h5
end Ey
namespace Go.Proofs.Ytmbnhlihcnbebaa
open Go Go.RowKit Ey Sk Go.Sort

set_option maxRecDepth 100000 in
set_option maxHeartbeats 8000000 in
theorem two_walk (hko : KeysOk) (ao : Option Addr) (n cap : Nat) (l : List Ac) (t : Int) (w : World) (hs : Sl w 8 cA ao n cap l) :
    Calls Try.prog 3 #[.slice ao n cap, .int .i64 t] w (Ret w (.bool true)) := by
  obtain rfl := hs.len
  have hle := hs.le
  have hcap := hs.max
  unfold maxLen at hcap
  have HS := Lib.hid hs
  have HKO := Lib.hid hko
  have HB_w : Below w.heap.size w w := Below.refl _ _
  clear hs hko
  obtain ⟨p, hp⟩ : ∃ p, atR l t = p := ⟨_, rfl⟩
  go_enter Try.func3, Try.ntmps3
  go_wp2_with fail
  refine (head_any HKO.out _).mono ?_
  rintro e wa ⟨rfl, hb_wa⟩
  have HB_wa : Below w.heap.size w wa := by first | exact after0 HB_w hb_wa | exact after1 HB_w hb_wa | exact after2 HB_w hb_wa | exact after3 HB_w hb_wa | exact after4 HB_w hb_wa | exact after5 HB_w hb_wa
  have HAT := Lib.hid (at_any HKO.out _ _ _ l t _ (HS.out.below HB_wa))
  rw [hp] at HAT
  go_wp2_with fail
  all_goals try (exfalso; omega)
  refine (HAT.out).mono ?_
  rintro e wb ⟨o1, n1, c1, rfl, hs1, hb_wb⟩
  have HB_wb : Below w.heap.size w wb := by first | exact after0 HB_wa hb_wb | exact after1 HB_wa hb_wb | exact after2 HB_wa hb_wb | exact after3 HB_wa hb_wb | exact after4 HB_wa hb_wb | exact after5 HB_wa hb_wb
  have H1 := Lib.hid hs1
  clear hs1 HAT
  by_cases hv : validL l = true ∧ timeB t = true
  case neg =>
    have hb : atR l t = ([], 1) := atR_bad (by
      by_cases h1 : validL l = true
      · right; simpa using fun h => hv ⟨h1, h⟩
      · left; simpa using h1)
    obtain rfl := hp.symm.trans hb
    obtain rfl := H1.out.len
    clear hb hv
    go_wp2_with fail
    all_goals try (exfalso; omega)
    go_ret
    exact ⟨rfl, HB_wb⟩
  obtain ⟨hv, ht⟩ := hv
  obtain rfl := hp.symm.trans (atR_ok hv ht)
  have hl200 := (validL_iff.1 hv).1
  have HTWO := Lib.hid (fun d hd htl => @two l t hv ht d hd htl)
  clear hp hv ht
  dsimp only at H1
  generalize stS (untilL l t) = L at *
  obtain rfl := H1.out.len
  have h1l := H1.out.max
  have h1m := H1.out.le
  unfold maxLen at h1l
  go_wp2_with fail
  all_goals try (exfalso; omega)
  go_loopw [5, 8] (fun u i wr => ∃ k : Nat, k ≤ L.length ∧ u = .bool true ∧ i = .int .i64 k ∧ Below w.heap.size w wr ∧ Hid (Below wb.heap.size wb wr)) (fun _ i _ => L.length - (intOf i).toNat)
  case atStart => exact ⟨0, by omega, rfl, rfl, HB_wb, Below.refl _ _⟩
  case round =>
    obtain ⟨k, hk, rfl, rfl, HB_wr, HBB⟩ := hrel
    by_cases hlt : k < L.length
    · obtain ⟨b', off, rfl, hb, hrow⟩ := (H1.out.below HBB.out).get hlt
      obtain ⟨e_0, e_1, -⟩ := (hrow k hlt).c12
      have HTW := Lib.hid (HTWO.out _ (List.getElem_mem hlt))
      have HROW := Lib.hid (hrow k hlt)
      clear hrow
      generalize L[k] = d at *
      obtain ⟨d0, told, ⟨d2, d3, d4, d5⟩, d6, drop, ⟨d8, d9, d10, d11⟩⟩ := d
      dsimp only at e_0 e_1 HTW
      cases told
      ·
        go_wp2_with fail
        all_goals try (exfalso; omega)
        go_roundw
        case rel => exact ⟨k + 1, hlt, rfl, by go_num, HB_wr, HBB.out⟩
        case measure => simp [intOf] <;> omega
      obtain ⟨p, q, he, hne, i0, j0, hij, hj0, htc⟩ := HTW.out rfl
      have hne2 : (p != q) = true := bne_iff_ne.2 hne
      have HEX := Lib.hid (show ∀ f, FoundIn d0 t p q ⟨d2, d3, d4, d5⟩ l l.length 0 f → f = true from fun f hf => hf i0 j0 _ _ hij (.inl (Nat.lt_trans hij hj0)) (List.getElem?_eq_getElem _) (List.getElem?_eq_getElem _) htc)
      have HEY := Lib.hid (eyes_any ao l.length cap l d0 t wr (HS.out.below HB_wr))
      rw [he] at HEY
      dsimp only [eT] at HEY
      clear HTW he hne htc hj0 hij
      go_wp2_with fail
      refine (HEY.out).mono ?_
      rintro e wc ⟨rfl, hb_wc⟩
      have HB_wc : Below w.heap.size w wc := by first | exact after0 HB_wr hb_wc | exact after1 HB_wr hb_wc | exact after2 HB_wr hb_wc | exact after3 HB_wr hb_wc | exact after4 HB_wr hb_wc | exact after5 HB_wr hb_wc
      have HROW2 := Lib.hid (HROW.out.below hb_wc hb)
      have HBB2 := Lib.hid (HBB.out.trans (hb_wc.mono HBB.out.size))
      have hb2 : b' < wc.heap.size := Nat.lt_of_lt_of_le hb hb_wc.size
      clear HROW HBB HEY e_0 e_1 hb
      go_wp2_with fail
      go_loopw [12, 13] (fun f i wr => ∃ (i' : Nat) (g : Bool), i' ≤ l.length ∧ f = .bool g ∧ i = .int .i64 i' ∧ Hid (FoundIn d0 t p q ⟨d2, d3, d4, d5⟩ l i' 0 g) ∧ Below w.heap.size w wr ∧ Hid (Below wc.heap.size wc wr)) (fun _ i _ => l.length - (intOf i).toNat)
      case atStart => exact ⟨0, false, by omega, rfl, rfl, FoundIn.zero _ _ _ _ _ _ _, HB_wc, Below.refl _ _⟩
      case round =>
        obtain ⟨i, g, hi, rfl, rfl, HF, HB_wr, HBC⟩ := hrel
        by_cases hil : i < l.length
        · have HF2 := Lib.hid HF.out.start
          clear HF
          go_wp2_with fail
          go_loopw [12, 14] (fun f j wr => ∃ (j' : Nat) (g : Bool), i + 1 ≤ j' ∧ j' ≤ l.length ∧ f = .bool g ∧ j = .int .i64 j' ∧ Hid (FoundIn d0 t p q ⟨d2, d3, d4, d5⟩ l i j' g) ∧ Below w.heap.size w wr ∧ Hid (Below wc.heap.size wc wr)) (fun _ j _ => l.length - (intOf j).toNat)
          case atStart => exact ⟨i + 1, g, by omega, by omega, rfl, by go_num, HF2.out, HB_wr, HBC.out⟩
          case round =>
            clear HF2 HBC
            obtain ⟨j, g, hij, hj, rfl, rfl, HF, HB_wr, HBC⟩ := hrel
            by_cases hjl : j < l.length
            · have HA := Lib.hid (List.getElem?_eq_getElem hil)
              have HC := Lib.hid (List.getElem?_eq_getElem hjl)
              obtain ⟨ba, offa, rfl, hba, hrowa⟩ := HS.out.get hil
              obtain ⟨e_0, e_1, e_2, e_3, e_4, e_5, e_6, e_7⟩ := ((hrowa i hil).below HB_wr hba).c8
              have HRJ := Lib.hid (hrowa j hjl)
              clear hrowa
              generalize l[i] = a at *
              generalize l[j] = c at *
              obtain ⟨x0, x1, x2, x3, ⟨x4, x5, x6, x7⟩⟩ := a
              obtain ⟨y0, y1, y2, y3, ⟨y4, y5, y6, y7⟩⟩ := c
              dsimp only at e_0 e_1 e_2 e_3 e_4 e_5 e_6 e_7
              obtain ⟨R, hR⟩ : ∃ R, wr.heap.size = R := ⟨_, rfl⟩
              obtain ⟨W1, hW1, hB1, hZ1, hb1⟩ := boxes1 wr [.int .i64 x0, .int .i64 x1, .int .i64 x2, .int .i64 x3, .int .i64 x4, .int .i64 x5, .int .i64 x6, .int .i64 x7] 37
              rw [hR] at hb1
              have HB_W1 : Below w.heap.size w W1 := after0 HB_wr hB1
              obtain ⟨f_0, f_1, f_2, f_3, f_4, f_5, f_6, f_7⟩ := (HRJ.out.below HB_W1 hba).c8
              dsimp only at f_0 f_1 f_2 f_3 f_4 f_5 f_6 f_7
              obtain ⟨R1, hR1⟩ : ∃ R, W1.heap.size = R := ⟨_, rfl⟩
              obtain ⟨W2, hW2, hB2, hZ2, hb2'⟩ := boxes1 W1 [.int .i64 y0, .int .i64 y1, .int .i64 y2, .int .i64 y3, .int .i64 y4, .int .i64 y5, .int .i64 y6, .int .i64 y7] 37
              rw [hR1] at hb2'
              have HB_W2 : Below w.heap.size w W2 := after0 HB_W1 hB2
              have H_s := Lib.hid (hb1.below hB2)
              have H_u := Lib.hid hb2'
              have HBC2 := Lib.hid ((HBC.out.trans (hB1.mono HBC.out.size)).trans (hB2.mono (Nat.le_trans HBC.out.size hB1.size)))
              obtain ⟨g_0, g_1, g_2, g_3, g_4, g_5, -⟩ := (HROW2.out.below HBC2.out hb2).c12
              dsimp only at g_0 g_1 g_2 g_3 g_4 g_5
              clear hb1 hB1 hZ1 hb2' hB2 hZ2 HRJ HBC HROW2 HEX
              go_wp2_with fail
              clear hW1 hW2 hR hR1 e_0 e_1 e_2 e_3 e_4 e_5 e_6 e_7 f_0 f_1 f_2 f_3 f_4 f_5 f_6 f_7
              by_cases hyt : y3 ≤ t
              case neg =>
                have HFN := Lib.hid (HF.out.no HA.out HC.out (fun h => hyt h.2.2.2.2.2.2.2))
                clear HF HA HC
                have hq := eql_box x4 x5 x6 x7 d2 d3 d4 d5
                obtain ⟨s_0, s_1, s_2, s_3, s_4, s_5, s_6, s_7⟩ := H_s.out.c8
                obtain ⟨v_0, v_1, v_2, v_3, v_4, v_5, v_6, v_7⟩ := H_u.out.c8
                have y_g_0 := cell_regrown g_0
                have y_g_1 := cell_regrown g_1
                have y_g_2 := cell_regrown g_2
                have y_g_3 := cell_regrown g_3
                have y_g_4 := cell_regrown g_4
                have y_g_5 := cell_regrown g_5
                clear g_0 g_1 g_2 g_3 g_4 g_5
                have y_s_0 := cell_regrown s_0
                have y_s_1 := cell_regrown s_1
                have y_s_2 := cell_regrown s_2
                have y_s_3 := cell_regrown s_3
                have y_s_4 := cell_regrown s_4
                have y_s_5 := cell_regrown s_5
                have y_s_6 := cell_regrown s_6
                have y_s_7 := cell_regrown s_7
                clear s_0 s_1 s_2 s_3 s_4 s_5 s_6 s_7
                have y_v_0 := cell_regrown v_0
                have y_v_1 := cell_regrown v_1
                have y_v_2 := cell_regrown v_2
                have y_v_3 := cell_regrown v_3
                have y_v_4 := cell_regrown v_4
                have y_v_5 := cell_regrown v_5
                have y_v_6 := cell_regrown v_6
                have y_v_7 := cell_regrown v_7
                clear v_0 v_1 v_2 v_3 v_4 v_5 v_6 v_7
                cases g
                ·
                  refine wp_region_plan (C := fun w' => ∃ p : Regrown, w' = grow (redrawn W2 p.d) p.os) (.q 0 (.q 1 (.q 2 (.q 3 (.q 4 (.q 5 (.q 6 (.q 7 (.q 8 (.q 9 (.q 10 (.q 11 (.q 12 (.q 13 (.q 14 (.q 15 (.q 16 (.q 17 (.q 18 (.q 19 (.q 20 (.q 21 (.q 22 (.q 23 (.q 24 (.q 25 (.q 26 (.q 27 (.q 28 (.q 29 (.q 30 (.q 31 (.q 32 (.q 33 (.q 34 (.q 35 (.q 36 (.q 37 (.q 38 (.q 39 (.q 40 (.q 41 (.q 42 (.q 43 (.q 44 (.q 45 (.q 46 (.q 47 (.q 48 (.q 49 (.q 50 (.q 51 (.q 52 (.q 53 (.q 54 (.q 55 (.q 56 (.q 57 (.q 58 (.q 59 (.done))))))))))))))))))))))))))))))))))))))))))))))))))))))))))))) 60 (by kernel_rfl) (by kernel_rfl) (grew_drew _) ?_
                  repeat (any_goals (first | (go_big_quiet_skip; refine wpQuiet_nil ?_) | (go_big_quiet_want; go_big_quiet_op; go_big_quiet_on; refine wpQuiet_nil ?_) | ((with_reducible apply q_split); exact rfl; intro q hq; cases q <;> (rw [hq]; (try first | replace hq := bnot_t hq | replace hq := bnot_f hq); (try first | replace hq := of_decide_eq_true hq | replace hq := of_decide_eq_false hq | replace hq := eq_of_beq hq); (try first | replace hq := Int.not_lt.1 hq | replace hq := Int.not_le.1 hq | replace hq := Nat.not_lt.1 hq | replace hq := Nat.not_le.1 hq); try (exfalso; omega))) | (refine plan_q rfl rfl ?_)))
                  clear y_g_0 y_g_1 y_g_2 y_g_3 y_g_4 y_g_5
                  clear y_s_0 y_s_1 y_s_2 y_s_3 y_s_4 y_s_5 y_s_6 y_s_7
                  clear y_v_0 y_v_1 y_v_2 y_v_3 y_v_4 y_v_5 y_v_6 y_v_7
                  all_goals refine plan_done ?_
                  all_goals (try simp only [List.drop_succ_cons, List.drop_zero])
                  all_goals (try go_wp2_with fail)
                  all_goals refine NoPanic.normal ?_
                  all_goals (try go_wp2_with fail)
                  all_goals
                    go_roundw
                    case rel =>
                      first
                        | exact ⟨j + 1, true, by omega, hjl, rfl, by go_num, FoundIn.yes, HB_W2.drew, HBC2.out.drew⟩
                        | exact ⟨j + 1, false, by omega, hjl, rfl, by go_num, HFN.out, HB_W2.drew, HBC2.out.drew⟩
                    case measure => simp [intOf] <;> omega
                ·
                  refine wp_region_plan (C := fun w' => ∃ p : Regrown, w' = grow (redrawn W2 p.d) p.os) (.q 0 (.q 1 (.q 2 (.q 3 (.q 4 (.q 5 (.q 6 (.q 7 (.q 8 (.q 9 (.q 10 (.q 11 (.q 12 (.q 13 (.q 14 (.q 15 (.q 16 (.q 17 (.q 18 (.q 19 (.q 20 (.q 21 (.q 22 (.q 23 (.q 24 (.q 25 (.q 26 (.q 27 (.q 28 (.q 29 (.q 30 (.q 31 (.q 32 (.q 33 (.q 34 (.q 35 (.q 36 (.q 37 (.q 38 (.q 39 (.q 40 (.q 41 (.q 42 (.q 43 (.q 44 (.q 45 (.q 46 (.q 47 (.q 48 (.q 49 (.q 50 (.q 51 (.q 52 (.q 53 (.q 54 (.q 55 (.q 56 (.q 57 (.q 58 (.q 59 (.done))))))))))))))))))))))))))))))))))))))))))))))))))))))))))))) 60 (by kernel_rfl) (by kernel_rfl) (grew_drew _) ?_
                  repeat (any_goals (first | (go_big_quiet_skip; refine wpQuiet_nil ?_) | (go_big_quiet_want; go_big_quiet_op; go_big_quiet_on; refine wpQuiet_nil ?_) | ((with_reducible apply q_split); exact rfl; intro q hq; cases q <;> (rw [hq]; (try first | replace hq := bnot_t hq | replace hq := bnot_f hq); (try first | replace hq := of_decide_eq_true hq | replace hq := of_decide_eq_false hq | replace hq := eq_of_beq hq); (try first | replace hq := Int.not_lt.1 hq | replace hq := Int.not_le.1 hq | replace hq := Nat.not_lt.1 hq | replace hq := Nat.not_le.1 hq); try (exfalso; omega))) | (refine plan_q rfl rfl ?_)))
                  clear y_g_0 y_g_1 y_g_2 y_g_3 y_g_4 y_g_5
                  clear y_s_0 y_s_1 y_s_2 y_s_3 y_s_4 y_s_5 y_s_6 y_s_7
                  clear y_v_0 y_v_1 y_v_2 y_v_3 y_v_4 y_v_5 y_v_6 y_v_7
                  all_goals refine plan_done ?_
                  all_goals (try simp only [List.drop_succ_cons, List.drop_zero])
                  all_goals (try go_wp2_with fail)
                  all_goals refine NoPanic.normal ?_
                  all_goals (try go_wp2_with fail)
                  go_roundw
                  case rel => exact ⟨j + 1, true, by omega, hjl, rfl, by go_num, FoundIn.yes, HB_W2.drew, HBC2.out.drew⟩
                  case measure => simp [intOf] <;> omega
              have HFY := Lib.hid (fun hn => HF.out.no HA.out HC.out hn)
              clear HF HA HC
              have hq := eql_box x4 x5 x6 x7 d2 d3 d4 d5
              obtain ⟨s_0, s_1, s_2, s_3, s_4, s_5, s_6, s_7⟩ := H_s.out.c8
              obtain ⟨v_0, v_1, v_2, v_3, v_4, v_5, v_6, v_7⟩ := H_u.out.c8
              have y_g_0 := cell_regrown g_0
              have y_g_1 := cell_regrown g_1
              have y_g_2 := cell_regrown g_2
              have y_g_3 := cell_regrown g_3
              have y_g_4 := cell_regrown g_4
              have y_g_5 := cell_regrown g_5
              clear g_0 g_1 g_2 g_3 g_4 g_5
              have y_s_0 := cell_regrown s_0
              have y_s_1 := cell_regrown s_1
              have y_s_2 := cell_regrown s_2
              have y_s_3 := cell_regrown s_3
              have y_s_4 := cell_regrown s_4
              have y_s_5 := cell_regrown s_5
              have y_s_6 := cell_regrown s_6
              have y_s_7 := cell_regrown s_7
              clear s_0 s_1 s_2 s_3 s_4 s_5 s_6 s_7
              have y_v_0 := cell_regrown v_0
              have y_v_1 := cell_regrown v_1
              have y_v_2 := cell_regrown v_2
              have y_v_3 := cell_regrown v_3
              have y_v_4 := cell_regrown v_4
              have y_v_5 := cell_regrown v_5
              have y_v_6 := cell_regrown v_6
              have y_v_7 := cell_regrown v_7
              clear v_0 v_1 v_2 v_3 v_4 v_5 v_6 v_7
              cases g
              ·
                refine wp_region_plan (C := fun w' => ∃ p : Regrown, w' = grow (redrawn W2 p.d) p.os) (.q 0 (.q 1 (.q 2 (.q 3 (.q 4 (.q 5 (.q 6 (.q 7 (.q 8 (.q 9 (.q 10 (.q 11 (.q 12 (.q 13 (.q 14 (.q 15 (.q 16 (.q 17 (.q 18 (.q 19 (.q 20 (.q 21 (.q 22 (.q 23 (.q 24 (.q 25 (.q 26 (.q 27 (.q 28 (.q 29 (.q 30 (.q 31 (.q 32 (.q 33 (.q 34 (.q 35 (.q 36 (.q 37 (.q 38 (.q 39 (.q 40 (.q 41 (.q 42 (.q 43 (.q 44 (.q 45 (.q 46 (.q 47 (.q 48 (.q 49 (.q 50 (.q 51 (.q 52 (.q 53 (.q 54 (.q 55 (.q 56 (.q 57 (.q 58 (.q 59 (.done))))))))))))))))))))))))))))))))))))))))))))))))))))))))))))) 60 (by kernel_rfl) (by kernel_rfl) (grew_drew _) ?_
                repeat (any_goals (first | (go_big_quiet_skip; refine wpQuiet_nil ?_) | (go_big_quiet_want; go_big_quiet_op; go_big_quiet_on; refine wpQuiet_nil ?_) | ((with_reducible apply q_split); exact rfl; intro q hq; cases q <;> (rw [hq]; (try first | replace hq := bnot_t hq | replace hq := bnot_f hq); (try first | replace hq := of_decide_eq_true hq | replace hq := of_decide_eq_false hq | replace hq := eq_of_beq hq); (try first | replace hq := Int.not_lt.1 hq | replace hq := Int.not_le.1 hq | replace hq := Nat.not_lt.1 hq | replace hq := Nat.not_le.1 hq); try (exfalso; omega))) | (refine plan_q rfl rfl ?_)))
                clear y_g_0 y_g_1 y_g_2 y_g_3 y_g_4 y_g_5
                clear y_s_0 y_s_1 y_s_2 y_s_3 y_s_4 y_s_5 y_s_6 y_s_7
                clear y_v_0 y_v_1 y_v_2 y_v_3 y_v_4 y_v_5 y_v_6 y_v_7
                all_goals refine plan_done ?_
                all_goals (try simp only [List.drop_succ_cons, List.drop_zero])
                all_goals (try go_wp2_with fail)
                all_goals refine NoPanic.normal ?_
                all_goals (try go_wp2_with fail)
                all_goals
                  go_roundw
                  case rel =>
                    first
                      | exact ⟨j + 1, true, by omega, hjl, rfl, by go_num, FoundIn.yes, HB_W2.drew, HBC2.out.drew⟩
                      | exact ⟨j + 1, false, by omega, hjl, rfl, by go_num, HFY.out (by rintro ⟨h1, h2, h3, h4, h5, h6, h7, h8⟩; dsimp only at h1 h2 h3 h4 h5 h6 h7; simp only [Bx.mk.injEq] at h5; obtain ⟨e1, e2, e3, e4⟩ := h5; (try omega); all_goals simp [e1, e2, e3, e4] at hq), HB_W2.drew, HBC2.out.drew⟩
                  case measure => simp [intOf] <;> omega
              ·
                refine wp_region_plan (C := fun w' => ∃ p : Regrown, w' = grow (redrawn W2 p.d) p.os) (.q 0 (.q 1 (.q 2 (.q 3 (.q 4 (.q 5 (.q 6 (.q 7 (.q 8 (.q 9 (.q 10 (.q 11 (.q 12 (.q 13 (.q 14 (.q 15 (.q 16 (.q 17 (.q 18 (.q 19 (.q 20 (.q 21 (.q 22 (.q 23 (.q 24 (.q 25 (.q 26 (.q 27 (.q 28 (.q 29 (.q 30 (.q 31 (.q 32 (.q 33 (.q 34 (.q 35 (.q 36 (.q 37 (.q 38 (.q 39 (.q 40 (.q 41 (.q 42 (.q 43 (.q 44 (.q 45 (.q 46 (.q 47 (.q 48 (.q 49 (.q 50 (.q 51 (.q 52 (.q 53 (.q 54 (.q 55 (.q 56 (.q 57 (.q 58 (.q 59 (.done))))))))))))))))))))))))))))))))))))))))))))))))))))))))))))) 60 (by kernel_rfl) (by kernel_rfl) (grew_drew _) ?_
                repeat (any_goals (first | (go_big_quiet_skip; refine wpQuiet_nil ?_) | (go_big_quiet_want; go_big_quiet_op; go_big_quiet_on; refine wpQuiet_nil ?_) | ((with_reducible apply q_split); exact rfl; intro q hq; cases q <;> (rw [hq]; (try first | replace hq := bnot_t hq | replace hq := bnot_f hq); (try first | replace hq := of_decide_eq_true hq | replace hq := of_decide_eq_false hq | replace hq := eq_of_beq hq); (try first | replace hq := Int.not_lt.1 hq | replace hq := Int.not_le.1 hq | replace hq := Nat.not_lt.1 hq | replace hq := Nat.not_le.1 hq); try (exfalso; omega))) | (refine plan_q rfl rfl ?_)))
                clear y_g_0 y_g_1 y_g_2 y_g_3 y_g_4 y_g_5
                clear y_s_0 y_s_1 y_s_2 y_s_3 y_s_4 y_s_5 y_s_6 y_s_7
                clear y_v_0 y_v_1 y_v_2 y_v_3 y_v_4 y_v_5 y_v_6 y_v_7
                all_goals refine plan_done ?_
                all_goals (try simp only [List.drop_succ_cons, List.drop_zero])
                all_goals (try go_wp2_with fail)
                all_goals refine NoPanic.normal ?_
                all_goals (try go_wp2_with fail)
                go_roundw
                case rel => exact ⟨j + 1, true, by omega, hjl, rfl, by go_num, FoundIn.yes, HB_W2.drew, HBC2.out.drew⟩
                case measure => simp [intOf] <;> omega
            · obtain rfl : j = l.length := by omega
              have HFN := Lib.hid HF.out.next
              clear HF
              go_wp2_with fail
              go_roundw
              case rel => exact ⟨i + 1, g, hil, rfl, by go_num, HFN.out, HB_wr, HBC.out⟩
              case measure => simp [intOf] <;> omega
        · obtain rfl : i = l.length := by omega
          obtain rfl := HEX.out _ HF.out
          go_wp2_with fail
          go_roundw
          case rel => exact ⟨k + 1, hlt, rfl, by go_num, HB_wr, HBB2.out.trans (HBC.out.mono HBB2.out.size)⟩
          case measure => simp [intOf] <;> omega
    · obtain rfl : k = L.length := by omega
      go_wp2_with fail
      go_ret
      exact ⟨rfl, HB_wr⟩
end Go.Proofs.Ytmbnhlihcnbebaa
