/-
  The law EyesHistory.
-/
import Derived.Test.YtmbnhlihcnbebaaEyQ
import Derived.Test.YtmbnhlihcnbebaaEyTh
import Derived.Test.YtmbnhlihcnbebaaLie
set_option linter.unusedVariables false
namespace Go.Proofs.Ytmbnhlihcnbebaa
open Go Go.RowKit Ey Sk Go.Sort

set_option maxRecDepth 100000 in
set_option maxHeartbeats 8000000 in
theorem history_walk (hko : KeysOk) (ao : Option Addr) (n cap : Nat) (l : List Ac) (t x : Int) (w : World) (hs : Sl w 8 cA ao n cap l) (hx : (Lit.int .u8 x).wf = true) :
    Calls Try.prog 7 #[.slice ao n cap, .int .i64 t, .int .u8 x] w (Ret w (.bool true)) := by
  obtain rfl := hs.len
  have hle := hs.le
  have hcap := hs.max
  unfold maxLen at hcap
  have HS := Lib.hid hs
  have HKO := Lib.hid hko
  have HB_w : Below w.heap.size w w := Below.refl _ _
  clear hs hko
  have hx2 : 0 ≤ x ∧ x ≤ 255 := by simpa [Lit.wf, IntKind.min, IntKind.max, IntKind.bits, IntKind.signed] using hx
  clear hx
  obtain ⟨p, hp⟩ : ∃ p, atR l t = p := ⟨_, rfl⟩
  go_enter Try.func7, Try.ntmps7
  go_wp2_with fail
  refine (head_any HKO.out _).mono ?_
  rintro e wa ⟨rfl, hb_wa⟩
  have HB_wa : Below w.heap.size w wa := by first | exact after0 HB_w hb_wa | exact after1 HB_w hb_wa | exact after2 HB_w hb_wa | exact after3 HB_w hb_wa | exact after4 HB_w hb_wa | exact after5 HB_w hb_wa
  have HAT := Lib.hid (at_any HKO.out _ _ _ l t _ (HS.out.below HB_wa))
  rw [hp] at HAT
  go_wp2_with fail
  all_goals try (exfalso; omega)
  refine (HAT.out).mono ?_
  rintro e wb ⟨o1, n1, c1, rfl, hs1, hb_wb⟩
  have HB_wb : Below w.heap.size w wb := by first | exact after0 HB_wa hb_wb | exact after1 HB_wa hb_wb | exact after2 HB_wa hb_wb | exact after3 HB_wa hb_wb | exact after4 HB_wa hb_wb | exact after5 HB_wa hb_wb
  have H1 := Lib.hid hs1
  clear hs1 HAT
  by_cases hv : validL l = true ∧ timeB t = true
  case neg =>
    have hb : atR l t = ([], 1) := atR_bad (by
      by_cases h1 : validL l = true
      · right; simpa using fun h => hv ⟨h1, h⟩
      · left; simpa using h1)
    obtain rfl := hp.symm.trans hb
    clear hb hv
    go_wp2_with fail
    all_goals try (exfalso; omega)
    go_ret
    exact ⟨rfl, HB_wb⟩
  obtain ⟨hv, ht⟩ := hv
  obtain rfl := hp.symm.trans (atR_ok hv ht)
  have hl200 := (validL_iff.1 hv).1
  have HEARLY := Lib.hid (fun n => @hist_early l t n hv ht)
  have HNOW := Lib.hid (hist_now (t := t) hv)
  have HLT := Lib.hid (fun k => @until_lt l t k)
  have HGE := Lib.hid (fun k => @until_ge l t k)
  have hul := until_len l t
  clear hp hv ht
  dsimp only at H1
  generalize (untilL l t).length = K at *
  generalize stS (untilL l t) = L at *
  go_wp2_with fail
  all_goals try (exfalso; omega)
  go_loopw [10] (fun i wr => ∃ k : Nat, k ≤ K ∧ i = .int .i64 k ∧ Below w.heap.size w wr ∧ Hid (Below wb.heap.size wb wr)) (fun i _ => l.length - (intOf i).toNat)
  case atStart => exact ⟨0, by omega, rfl, HB_wb, Below.refl _ _⟩
  case round =>
    obtain ⟨k, hk, rfl, HB_wr, HBB⟩ := hrel
    by_cases hlt : k < l.length
    · obtain ⟨b', off, rfl, hb, hrow⟩ := HS.out.get hlt
      obtain ⟨e_0, e_1, e_2, e_3, e_4, e_5, e_6, e_7⟩ := ((hrow k hlt).below HB_wr hb).c8
      clear hrow
      by_cases hkK : k < K
      · have hle3 := HLT.out k hkK hlt
        generalize l[k] = a at *
        go_wp2_with fail
        all_goals try (exfalso; omega)
        go_roundw
        case rel => exact ⟨k + 1, hkK, by go_num, HB_wr, HBB.out⟩
        case measure => simp [intOf] <;> omega
      · obtain rfl : K = k := by omega
        have hgt := HGE.out K rfl hlt
        generalize l[K] = a at *
        obtain ⟨R, hR, hRl⟩ : ∃ R : Nat, x % ((l.length : Int) - (K : Int) + 1) = (R : Int) ∧ K + R ≤ l.length := by
          have k1 := Int.emod_nonneg x (show ((l.length : Int) - (K : Int) + 1) ≠ 0 by omega)
          have k2 := Int.emod_lt_of_pos x (show (0 : Int) < (l.length : Int) - (K : Int) + 1 by omega)
          exact ⟨(x % ((l.length : Int) - (K : Int) + 1)).toNat, by omega, by omega⟩
        have hnz : ¬ ((l.length : Int) - (K : Int) + 1 = 0) := by omega
        have hst1 := slice_head (P := Try.prog) (t := 22) (by kernel_rfl) (fun W => by kernel_rfl) HS.out (K + R) hRl
        have hst2 := slice_head (P := Try.prog) (t := 22) (by kernel_rfl) (fun W => by kernel_rfl) HS.out K (by omega)
        rw [Int.natCast_add] at hst1
        have HE := Lib.hid (HEARLY.out (K + R) (by omega))
        have HC1 := Lib.hid ((at_any HKO.out _ _ _ (l.take (K + R)) t _ ((HS.out.take (n := K + R) hRl).below HB_wr)).mono fun _ _ => dgs_k HE.out)
        have H1R := Lib.hid (H1.out.below HBB.out)
        go_wp2_with fail
        all_goals try (exfalso; omega)
        clear hst1
        refine (HC1.out).mono ?_
        rintro e wc ⟨o3, n3, c3, rfl, hs3, hb_wc⟩
        have HB_wc : Below w.heap.size w wc := by first | exact after0 HB_wr hb_wc | exact after1 HB_wr hb_wc | exact after2 HB_wr hb_wc | exact after3 HB_wr hb_wc | exact after4 HB_wr hb_wc | exact after5 HB_wr hb_wc
        have H3 := Lib.hid hs3
        clear hs3 HC1 HE
        have HC2 := Lib.hid (replay_any HKO.out _ _ _ (l.take K) _ ((HS.out.take (n := K) (by omega)).below HB_wc) (by rw [List.length_take]; omega))
        unfold ReplE at HC2
        rw [HNOW.out] at HC2
        go_wp2_with fail
        all_goals try (exfalso; omega)
        clear hst2
        refine (HC2.out).mono ?_
        rintro e wd ⟨o4, c4, o5, c5, rfl, hs4, hs5, hb_wd⟩
        have HB_wd : Below w.heap.size w wd := by first | exact after0 HB_wc hb_wd | exact after1 HB_wc hb_wd | exact after2 HB_wc hb_wd | exact after3 HB_wc hb_wd | exact after4 HB_wc hb_wd | exact after5 HB_wc hb_wd
        have H4 := Lib.hid hs4
        clear hs4 hs5 HC2
        have H1D := Lib.hid ((H1R.out.below hb_wc).below hb_wd)
        have H3D := Lib.hid (H3.out.below hb_wd)
        go_wp2_with fail
        all_goals try (exfalso; omega)
        refine (k_same _ H3D.out H1D.out rfl).mono ?_
        rintro e wf ⟨rfl, hb_wf⟩
        have HB_wf : Below w.heap.size w wf := by first | exact after0 HB_wd hb_wf | exact after1 HB_wd hb_wf | exact after2 HB_wd hb_wf | exact after3 HB_wd hb_wf | exact after4 HB_wd hb_wf | exact after5 HB_wd hb_wf
        have H1F := Lib.hid (H1D.out.below hb_wf)
        have H4F := Lib.hid (H4.out.below hb_wf)
        go_wp2_with fail
        all_goals try (exfalso; omega)
        refine (k_same _ H4F.out H1F.out rfl).mono ?_
        rintro e wg ⟨rfl, hb_wg⟩
        have HB_wg : Below w.heap.size w wg := by first | exact after0 HB_wf hb_wg | exact after1 HB_wf hb_wg | exact after2 HB_wf hb_wg | exact after3 HB_wf hb_wg | exact after4 HB_wf hb_wg | exact after5 HB_wf hb_wg
        go_wp2_with fail
        all_goals try (exfalso; omega)
        go_ret
        exact ⟨rfl, HB_wg⟩
    · obtain rfl : K = k := by omega
      obtain ⟨R, hR, hRl⟩ : ∃ R : Nat, x % ((l.length : Int) - (K : Int) + 1) = (R : Int) ∧ K + R ≤ l.length := by
        have k1 := Int.emod_nonneg x (show ((l.length : Int) - (K : Int) + 1) ≠ 0 by omega)
        have k2 := Int.emod_lt_of_pos x (show (0 : Int) < (l.length : Int) - (K : Int) + 1 by omega)
        exact ⟨(x % ((l.length : Int) - (K : Int) + 1)).toNat, by omega, by omega⟩
      have hnz : ¬ ((l.length : Int) - (K : Int) + 1 = 0) := by omega
      have hst1 := slice_head (P := Try.prog) (t := 22) (by kernel_rfl) (fun W => by kernel_rfl) HS.out (K + R) hRl
      have hst2 := slice_head (P := Try.prog) (t := 22) (by kernel_rfl) (fun W => by kernel_rfl) HS.out K (by omega)
      rw [Int.natCast_add] at hst1
      have HE := Lib.hid (HEARLY.out (K + R) (by omega))
      have HC1 := Lib.hid ((at_any HKO.out _ _ _ (l.take (K + R)) t _ ((HS.out.take (n := K + R) hRl).below HB_wr)).mono fun _ _ => dgs_k HE.out)
      have H1R := Lib.hid (H1.out.below HBB.out)
      go_wp2_with fail
      all_goals try (exfalso; omega)
      clear hst1
      refine (HC1.out).mono ?_
      rintro e wc ⟨o3, n3, c3, rfl, hs3, hb_wc⟩
      have HB_wc : Below w.heap.size w wc := by first | exact after0 HB_wr hb_wc | exact after1 HB_wr hb_wc | exact after2 HB_wr hb_wc | exact after3 HB_wr hb_wc | exact after4 HB_wr hb_wc | exact after5 HB_wr hb_wc
      have H3 := Lib.hid hs3
      clear hs3 HC1 HE
      have HC2 := Lib.hid (replay_any HKO.out _ _ _ (l.take K) _ ((HS.out.take (n := K) (by omega)).below HB_wc) (by rw [List.length_take]; omega))
      unfold ReplE at HC2
      rw [HNOW.out] at HC2
      go_wp2_with fail
      all_goals try (exfalso; omega)
      clear hst2
      refine (HC2.out).mono ?_
      rintro e wd ⟨o4, c4, o5, c5, rfl, hs4, hs5, hb_wd⟩
      have HB_wd : Below w.heap.size w wd := by first | exact after0 HB_wc hb_wd | exact after1 HB_wc hb_wd | exact after2 HB_wc hb_wd | exact after3 HB_wc hb_wd | exact after4 HB_wc hb_wd | exact after5 HB_wc hb_wd
      have H4 := Lib.hid hs4
      clear hs4 hs5 HC2
      have H1D := Lib.hid ((H1R.out.below hb_wc).below hb_wd)
      have H3D := Lib.hid (H3.out.below hb_wd)
      go_wp2_with fail
      all_goals try (exfalso; omega)
      refine (k_same _ H3D.out H1D.out rfl).mono ?_
      rintro e wf ⟨rfl, hb_wf⟩
      have HB_wf : Below w.heap.size w wf := by first | exact after0 HB_wd hb_wf | exact after1 HB_wd hb_wf | exact after2 HB_wd hb_wf | exact after3 HB_wd hb_wf | exact after4 HB_wd hb_wf | exact after5 HB_wd hb_wf
      have H1F := Lib.hid (H1D.out.below hb_wf)
      have H4F := Lib.hid (H4.out.below hb_wf)
      go_wp2_with fail
      all_goals try (exfalso; omega)
      refine (k_same _ H4F.out H1F.out rfl).mono ?_
      rintro e wg ⟨rfl, hb_wg⟩
      have HB_wg : Below w.heap.size w wg := by first | exact after0 HB_wf hb_wg | exact after1 HB_wf hb_wg | exact after2 HB_wf hb_wg | exact after3 HB_wf hb_wg | exact after4 HB_wf hb_wg | exact after5 HB_wf hb_wg
      go_wp2_with fail
      all_goals try (exfalso; omega)
      go_ret
      exact ⟨rfl, HB_wg⟩
end Go.Proofs.Ytmbnhlihcnbebaa
