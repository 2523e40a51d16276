/-
  Walks of the reference of the layer 'eyes': Eyes.
-/
import Derived.Test.YtmbnhlihcnbebaaEyRH
set_option linter.unusedVariables false
namespace Go.Proofs.Ytmbnhlihcnbebaa
open Go Go.RowKit Ey Sk Go.Sort

set_option maxRecDepth 100000 in
set_option maxHeartbeats 8000000 in
theorem reyes_any (ao : Option Addr) (n cap : Nat) (l : List Ac) (x t : Int) (w : World) (hs : Sl w 8 cA ao n cap l) : Calls Try.prog 24 #[.slice ao n cap, .int .i64 x, .int .i64 t] w (Ret w (eT (eyesR l x t))) := by
  obtain rfl := hs.len
  have hcap := hs.max
  have hle := hs.le
  unfold maxLen at hcap
  have HS := Lib.hid hs
  have HB_w : Below w.heap.size w w := Below.refl _ _
  have HBAD := Lib.hid (@eyesR_bad l x t)
  have HNONE := Lib.hid (@eyesR_none l x t)
  have HOK := Lib.hid (@eyesR_ok l x t)
  have HVL := Lib.hid (@validL_iff l)
  have hul := until_len l t
  have HUT := Lib.hid (until_eq l t)
  clear hs
  unfold eT
  generalize eyesR l x t = r at *
  go_enter Try.func24, Try.ntmps24
  go_wp2_with fail
  refine (rvalid_any _ _ _ l _ HS.out).mono ?_
  rintro e wa ⟨rfl, hb_wa⟩
  have HB_wa : Below w.heap.size w wa := by first | exact after0 HB_w hb_wa | exact after1 HB_w hb_wa | exact after2 HB_w hb_wa | exact after3 HB_w hb_wa | exact after4 HB_w hb_wa | exact after5 HB_w hb_wa
  go_wp2_with fail
  refine (rtime_any t _).mono ?_
  rintro e wb ⟨rfl, hb_wb⟩
  have HB_wb : Below w.heap.size w wb := by first | exact after0 HB_wa hb_wb | exact after1 HB_wa hb_wb | exact after2 HB_wa hb_wb | exact after3 HB_wa hb_wb | exact after4 HB_wa hb_wb | exact after5 HB_wa hb_wb
  go_wp2_with fail
  refine (rperson_any x _).mono ?_
  rintro e wc ⟨rfl, hb_wc⟩
  have HB_wc : Below w.heap.size w wc := by first | exact after0 HB_wb hb_wc | exact after1 HB_wb hb_wc | exact after2 HB_wb hb_wc | exact after3 HB_wb hb_wc | exact after4 HB_wb hb_wc | exact after5 HB_wb hb_wc
  cases h1 : validL l
  · have HP := Lib.hid (HBAD.out (.inl h1))
    clear h1 HBAD HOK HVL
    generalize timeB t = q1 at *
    generalize numB x = q2 at *
    go_wp2_with fail
    all_goals try (exfalso; omega)
    refine bodyPost_ret (v := .tuple #[.int .i64 0, .int .i64 0, .int .i64 1]) (by simp [results, Try.results24, go_sem]) rfl ?_
    exact ⟨by rw [HP.out], HB_wc⟩
  cases h2 : timeB t
  · have HP := Lib.hid (HBAD.out (.inr (.inl h2)))
    clear h1 h2 HBAD HOK HVL
    generalize numB x = q2 at *
    go_wp2_with fail
    all_goals try (exfalso; omega)
    refine bodyPost_ret (v := .tuple #[.int .i64 0, .int .i64 0, .int .i64 1]) (by simp [results, Try.results24, go_sem]) rfl ?_
    exact ⟨by rw [HP.out], HB_wc⟩
  cases h3 : numB x
  · have HP := Lib.hid (HBAD.out (.inr (.inr h3)))
    clear h1 h2 h3 HBAD HOK HVL
    go_wp2_with fail
    all_goals try (exfalso; omega)
    refine bodyPost_ret (v := .tuple #[.int .i64 0, .int .i64 0, .int .i64 1]) (by simp [results, Try.results24, go_sem]) rfl ?_
    exact ⟨by rw [HP.out], HB_wc⟩
  replace HOK := Lib.hid (HOK.out h1 h2 h3)
  replace HNONE := Lib.hid (HNONE.out h1 h2 h3)
  have HVA := Lib.hid (HVL.out.1 h1).2.1
  have hl200 := (HVL.out.1 h1).1
  clear h1 h2 h3 HBAD HVL
  have HSU := Lib.hid (show Sl w 8 cA ao (untilL l t).length cap (untilL l t) by
    have := HS.out.take (n := (untilL l t).length) hul
    rwa [← HUT.out] at this)
  have HVU := Lib.hid (show ∀ a ∈ untilL l t, validA a = true from fun a ha => HVA.out a (by rw [HUT.out] at ha; exact List.mem_of_mem_take ha))
  have HUA := Lib.hid (runtil_any ao l.length cap l t wc (HS.out.below HB_wc))
  clear HUT HVA
  generalize untilL l t = u at *
  go_wp2_with fail
  all_goals try (exfalso; omega)
  refine (HUA.out).mono ?_
  rintro e wd ⟨rfl, hb_wd⟩
  have HB_wd : Below w.heap.size w wd := by first | exact after0 HB_wc hb_wd | exact after1 HB_wc hb_wd | exact after2 HB_wc hb_wd | exact after3 HB_wc hb_wd | exact after4 HB_wc hb_wd | exact after5 HB_wc hb_wd
  clear HUA
  have huc := HSU.out.le
  go_wp2_with fail
  go_loopw [13, 14, 15, 16] (fun st one two i wr => ∃ (k : Nat) (so : Option Addr) (sn sc : Nat), k ≤ u.length ∧ st = .slice so sn sc ∧ one = .int .i64 (eyesS x (u.take k)).one ∧ two = .int .i64 (eyesS x (u.take k)).two ∧ i = .int .i64 k ∧ Below w.heap.size w wr ∧ Hid (Sl wr 12 cD so sn sc (eyesS x (u.take k)).L) ∧ Hid (stateB (eyesS x (u.take k)).L = true)) (fun _ _ _ i _ => u.length - (intOf i).toNat)
  case atStart => exact ⟨0, none, 0, 0, by omega, rfl, rfl, rfl, rfl, HB_wd, Sl.nil, rfl⟩
  case round =>
    obtain ⟨k, so, sn, sc, hk, rfl, rfl, rfl, rfl, HB_wr, HST, HSB⟩ := hrel
    obtain rfl := HST.out.len
    by_cases hlt : k < u.length
    · obtain ⟨b', off, rfl, hb, hrow⟩ := HSU.out.get hlt
      have HROW := Lib.hid (hrow k hlt)
      have HN := Lib.hid (eyes_take (x := x) hlt)
      have HER := Lib.hid (estep_ref (x := x) HSB.out (HVU.out _ (List.getElem_mem hlt)))
      have HFI := Lib.hid (fun W hW => rfind_any so _ sc (eyesS x (u.take k)).L x W (HST.out.below hW))
      have HDO := Lib.hid (fun W hW => rdo_any so _ sc (eyesS x (u.take k)).L u[k] W (HST.out.below hW))
      clear hrow
      generalize eyesS x (u.take k) = s at *
      generalize u[k] = a at *
      obtain ⟨L, one, two⟩ := s
      dsimp only at HER HFI HDO HST HSB ⊢
      generalize estep x ⟨L, one, two⟩ a = s2 at *
      obtain ⟨a0, a1, a2, a3, ⟨a4, a5, a6, a7⟩⟩ := a
      dsimp only at HROW HER
      dsimp only [eA] at HDO
      generalize gt L x = g at *
      generalize doR L ⟨a0, a1, a2, a3, ⟨a4, a5, a6, a7⟩⟩ = dr at *
      obtain ⟨g0, g1, ⟨g2, g3, g4, g5⟩, g6, g7, ⟨g8, g9, g10, g11⟩⟩ := g
      dsimp only [eD] at HFI
      dsimp only at HER
      go_wp2_with fail
      refine (HFI.out _ (Below.refl _ _)).mono ?_
      rintro e we ⟨rfl, hb_we⟩
      have HB_we : Below w.heap.size w we := by first | exact after0 HB_wr hb_we | exact after1 HB_wr hb_we | exact after2 HB_wr hb_we | exact after3 HB_wr hb_we | exact after4 HB_wr hb_we | exact after5 HB_wr hb_we
      have hwe := hb_we
      obtain ⟨R, hR⟩ : ∃ R, we.heap.size = R := ⟨_, rfl⟩
      obtain ⟨W1, hW1, hB1, hZ1, hb1⟩ := boxes1 we [.int .i64 g0, .bool g1, .int .i64 g2, .int .i64 g3, .int .i64 g4, .int .i64 g5, .int .i64 g6, .bool g7, .int .i64 g8, .int .i64 g9, .int .i64 g10, .int .i64 g11] 33
      rw [hR] at hb1
      have H_s := Lib.hid hb1
      have HB_W1 : Below w.heap.size w W1 := after0 HB_we hB1
      have hw1 := hwe.trans (hB1.mono hwe.size)
      obtain ⟨e_0, e_1, e_2, e_3, e_4, e_5, e_6, e_7⟩ := (HROW.out.below HB_W1 hb).c8
      dsimp only at e_0 e_1 e_2 e_3 e_4 e_5 e_6 e_7
      clear hb1 hB1 hZ1 HFI hb_we
      go_wp2_with fail
      clear hW1 hR
      refine (HDO.out _ hw1).mono ?_
      rintro e wf ⟨o5, n5, c5, rfl, hs5, hb_wf⟩
      have HB_wf : Below w.heap.size w wf := by first | exact after0 HB_W1 hb_wf | exact after1 HB_W1 hb_wf | exact after2 HB_W1 hb_wf | exact after3 HB_W1 hb_wf | exact after4 HB_W1 hb_wf | exact after5 HB_W1 hb_wf
      have H5 := Lib.hid hs5
      have HSO := Lib.hid (HST.out.below (hw1.trans (hb_wf.mono hw1.size)))
      replace H_s := Lib.hid (H_s.out.below hb_wf)
      obtain ⟨f_0, f_1, f_2, -⟩ := (HROW.out.below HB_wf hb).c8
      dsimp only at f_0 f_1 f_2
      obtain ⟨-, -, -, -, -, -, s_6, -⟩ := H_s.out.c12
      clear hs5 HDO e_0 e_1 e_2 e_3 e_4 e_5 e_6 e_7 hw1 hwe
      rcases HER.out with ⟨e, rfl, he, hs2⟩ | ⟨N, rfl, hNB, hs2⟩
      · have he1 : (e != 0) = true := bne_iff_ne.2 he
        have HNX := Lib.hid (HN.out.trans hs2)
        clear HER hs2 he H5
        go_wp2_with fail
        all_goals try (exfalso; omega)
        go_roundw
        case rel => exact ⟨k + 1, so, _, sc, hlt, rfl, by rw [HNX.out], by rw [HNX.out], by go_num, HB_wf, by rw [HNX.out]; exact HSO.out, by rw [HNX.out]; exact HSB.out⟩
        case measure => simp [intOf] <;> omega
      · have HNB := Lib.hid hNB
        dsimp only at H5
        by_cases hc1 : a1 = x
        · subst hc1
          by_cases hc2 : a0 = 3
          · subst hc2
            have HNX := Lib.hid (HN.out.trans (hs2.trans (if_pos ⟨rfl, rfl⟩)))
            clear HER hs2 hNB HSO
            go_wp2_with fail
            all_goals try (exfalso; omega)
            go_roundw
            case rel => exact ⟨k + 1, o5, _, c5, hlt, rfl, by rw [HNX.out], by rw [HNX.out], by go_num, HB_wf, by rw [HNX.out]; exact H5.out, by rw [HNX.out]; exact HNB.out⟩
            case measure => simp [intOf] <;> omega
          · have hc3 : (a0 == 3) = false := beq_eq_false_iff_ne.2 hc2
            have HNX := Lib.hid (HN.out.trans (hs2.trans (if_neg (fun h => hc2 h.2))))
            clear HER hs2 hNB HSO hc2
            go_wp2_with fail
            all_goals try (exfalso; omega)
            go_roundw
            case rel => exact ⟨k + 1, o5, _, c5, hlt, rfl, by rw [HNX.out], by rw [HNX.out], by go_num, HB_wf, by rw [HNX.out]; exact H5.out, by rw [HNX.out]; exact HNB.out⟩
            case measure => simp [intOf] <;> omega
        · have hc3 : (a1 == x) = false := beq_eq_false_iff_ne.2 hc1
          have HNX := Lib.hid (HN.out.trans (hs2.trans (if_neg (fun h => hc1 h.1))))
          clear HER hs2 hNB HSO hc1
          go_wp2_with fail
          all_goals try (exfalso; omega)
          go_roundw
          case rel => exact ⟨k + 1, o5, _, c5, hlt, rfl, by rw [HNX.out], by rw [HNX.out], by go_num, HB_wf, by rw [HNX.out]; exact H5.out, by rw [HNX.out]; exact HNB.out⟩
          case measure => simp [intOf] <;> omega
    · obtain rfl : k = u.length := by omega
      rw [List.take_length] at HST HSB ⊢
      have HFI := Lib.hid (rfind_any so _ sc (eyesS x u).L x wr HST.out)
      clear HST HSB
      generalize eyesS x u = s at *
      obtain ⟨L, one, two⟩ := s
      dsimp only at HFI HOK HNONE ⊢
      generalize gt L x = g at *
      obtain ⟨g0, g1, ⟨g2, g3, g4, g5⟩, g6, g7, ⟨g8, g9, g10, g11⟩⟩ := g
      dsimp only [eD] at HFI
      dsimp only at HOK HNONE
      go_wp2_with fail
      refine (HFI.out).mono ?_
      rintro e we ⟨rfl, hb_we⟩
      have HB_we : Below w.heap.size w we := by first | exact after0 HB_wr hb_we | exact after1 HB_wr hb_we | exact after2 HB_wr hb_we | exact after3 HB_wr hb_we | exact after4 HB_wr hb_we | exact after5 HB_wr hb_we
      obtain ⟨W1, hW1, hB1, hZ1, hb1⟩ := boxes1 we [.int .i64 g0, .bool g1, .int .i64 g2, .int .i64 g3, .int .i64 g4, .int .i64 g5, .int .i64 g6, .bool g7, .int .i64 g8, .int .i64 g9, .int .i64 g10, .int .i64 g11] 33
      have HB_W1 : Below w.heap.size w W1 := after0 HB_we hB1
      obtain ⟨-, s_1, -⟩ := hb1.c12
      clear hb1 hB1 hZ1 HFI
      cases g1
      · have HP := Lib.hid (HNONE.out rfl)
        clear HOK HNONE
        go_wp2_with fail
        all_goals try (exfalso; omega)
        refine bodyPost_ret (v := .tuple #[.int .i64 0, .int .i64 0, .int .i64 4]) (by simp [results, Try.results24, go_sem]) rfl ?_
        exact ⟨by rw [HP.out], HB_W1⟩
      · have HP := Lib.hid (HOK.out rfl)
        clear HOK HNONE
        go_wp2_with fail
        all_goals try (exfalso; omega)
        refine bodyPost_ret (v := .tuple #[.int .i64 one, .int .i64 two, .int .i64 0]) (by simp [results, Try.results24, go_sem]) rfl ?_
        exact ⟨by rw [HP.out], HB_W1⟩
end Go.Proofs.Ytmbnhlihcnbebaa
