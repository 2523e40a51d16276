/-
  The law ScheduleBest.
-/
import Derived.Test.YtheioedggjbphaaSdL
set_option linter.unusedVariables false
namespace Go.Proofs.Ytheioedggjbphaa
open Go Go.RowKit Sc Sk Go.Sort
theorem names_up {J : List Jb} {k : List Sn} {f : Int} (hn : namesB J k = true) (hf : ∀ (h : 0 < k.length), f ≤ k[0].slot) : ∀ s ∈ k, f ≤ s.slot := by
  have hr := (rise_iff.1 (show rise (-1) k = true by unfold namesB riseB at hn; rw [Bool.and_eq_true] at hn; exact hn.1)).2
  intro s hs
  obtain ⟨i, hi, rfl⟩ := List.mem_iff_getElem.1 hs
  rcases Nat.eq_zero_or_pos i with rfl | h
  · exact hf hi
  · have h1 := hf (by omega)
    have h2 := (List.pairwise_iff_getElem.1 hr) 0 i (by omega) hi h
    omega
set_option maxRecDepth 100000 in
set_option maxHeartbeats 8000000 in
theorem best_walk (hso : SortOk) (ao : Option Addr) (n cap : Nat) (l : List Jb) (f : Int) (bo : Option Addr) (m capb : Nat) (k : List Sn) (w : World) (hs : Sl w 4 cJ ao n cap l) (ho : Sl w 3 cS bo m capb k) :
    Calls Try.prog 5 #[.slice ao n cap, .int .i64 f, .slice bo m capb] w (Ret w (.bool true)) := by
  obtain rfl := hs.len
  have hle := hs.le
  have hcap := hs.max
  have HCAP := Lib.hid hcap
  have hcap2 := hcap
  unfold maxLen at hcap2
  have HS := Lib.hid hs
  have HSO := Lib.hid hso
  obtain rfl := ho.len
  have hcapb := ho.max
  have hleb := ho.le
  unfold maxLen at hcapb
  have HO := Lib.hid ho
  clear hs hso hcap ho
  have HP1 := Lib.hid (planR_cases l f)
  have HB_w : Below w.heap.size w w := Below.refl _ _
  go_enter Try.func5, Try.ntmps5
  go_wp2_with fail
  refine (head_any HSO.out _).mono ?_
  rintro e wa ⟨rfl, hb_wa⟩
  have HB_wa : Below w.heap.size w wa := by first | exact after0 HB_w hb_wa | exact after1 HB_w hb_wa | exact after2 HB_w hb_wa | exact after3 HB_w hb_wa | exact after4 HB_w hb_wa | exact after5 HB_w hb_wa
  go_wp2_with fail
  refine (rfew_any ao l.length cap _ hle HCAP.out).mono ?_
  rintro e wb ⟨rfl, hb_wb⟩
  have HB_wb : Below w.heap.size w wb := by first | exact after0 HB_wa hb_wb | exact after1 HB_wa hb_wb | exact after2 HB_wa hb_wb | exact after3 HB_wa hb_wb | exact after4 HB_wa hb_wb | exact after5 HB_wa hb_wb
  by_cases h12 : l.length ≤ 12
  case neg =>
    rw [decide_eq_false h12]
    go_wp2_with fail
    all_goals try (exfalso; omega)
    go_ret
    exact ⟨rfl, HB_wb⟩
  rw [decide_eq_true h12]
  by_cases h5 : 500 < (k.length : Int)
  ·
    go_wp2_with fail
    all_goals try (exfalso; omega)
    go_ret
    exact ⟨rfl, HB_wb⟩
  replace h5 := Int.not_lt.1 h5
  go_wp2_with fail
  all_goals try (exfalso; omega)
  refine (Plan_k ao l.length cap l f _ (HS.out.below HB_wb)).mono ?_
  rintro e wc ⟨o1, n1, c1, rfl, hl, hb_wc⟩
  have HB_wc : Below w.heap.size w wc := by first | exact after0 HB_wb hb_wc | exact after1 HB_wb hb_wc | exact after2 HB_wb hb_wc | exact after3 HB_wb hb_wc | exact after4 HB_wb hb_wc | exact after5 HB_wb hb_wc
  have HL1 := Lib.hid hl
  clear hl
  go_wp2_with fail
  refine (Check_any ao l.length cap l bo k.length capb k _ (HS.out.below HB_wc) (HO.out.below HB_wc)).mono ?_
  rintro e wd ⟨rfl, hb_wd⟩
  have HB_wd : Below w.heap.size w wd := by first | exact after0 HB_wc hb_wd | exact after1 HB_wc hb_wd | exact after2 HB_wc hb_wd | exact after3 HB_wc hb_wd | exact after4 HB_wc hb_wd | exact after5 HB_wc hb_wd
  replace HL1 := Lib.hid (show Sl wd _ _ _ _ _ _ by first | exact HL1.out.below hb_wd | exact (HL1.out.below (grew1 (Below.refl _ _))).below hb_wd | exact (HL1.out.below (grew2 (Below.refl _ _))).below hb_wd | exact (HL1.out.below (grew3 (Below.refl _ _))).below hb_wd)
  rcases HP1.out with ⟨v1, s1, e1⟩ | ⟨_, e1⟩
  case inr =>
    rw [e1]
    generalize checkR l k = y at *
    go_wp2_with fail
    all_goals try (exfalso; omega)
    go_ret
    exact ⟨rfl, HB_wd⟩
  cases hn : namesB l k with
  | false =>
    have ec : checkR l k = (false, 1) := by unfold checkR; rw [v1, hn]; rfl
    rw [e1, ec]
    clear hn ec e1 s1 v1
    go_wp2_with fail
    all_goals try (exfalso; omega)
    go_ret
    exact ⟨rfl, HB_wd⟩
  | true =>
  have ec := checkR_ok v1 hn
  cases hcb : checkB l k with
  | false =>
    rw [hcb] at ec
    rw [e1, ec]
    clear hn ec e1 s1 v1 hcb
    go_wp2_with fail
    all_goals try (exfalso; omega)
    go_ret
    exact ⟨rfl, HB_wd⟩
  | true =>
  rw [hcb] at ec
  rw [e1, ec]
  rw [e1] at HL1
  clear ec hcb
  have HV := Lib.hid v1
  have h0 := (slotB_iff.1 s1).1
  have HNO := Lib.hid hn
  clear hn
  have HBST0 := Lib.hid (show (∀ (h : 0 < k.length), f ≤ k[0].slot) → lateF l k = [] → lateF l (planF l f) = [] from fun hf h => best_law (validJ_iff.1 HV.out).2 h0 HNO.out (names_up HNO.out hf) h)
  rcases Nat.eq_zero_or_pos k.length with hk | hk
  · have HBST := Lib.hid (HBST0.out (fun h => by omega))
    have hki : (k.length : Int) ≤ 0 := by omega
    clear HBST0 hk
    go_wp2_with fail
    all_goals try (exfalso; omega)
    have HN1 := Lib.hid (plan_names (J := l) h0)
    clear e1 s1 v1 h0 HP1
    go_wp2_with fail
    refine (Late_k _ (HS.out.below HB_wd) HL1.out HV.out HN1.out).mono ?_
    rintro e we ⟨o3, n3, c3, rfl, hl, hb_we⟩
    have HB_we : Below w.heap.size w we := by first | exact after0 HB_wd hb_we | exact after1 HB_wd hb_we | exact after2 HB_wd hb_we | exact after3 HB_wd hb_we | exact after4 HB_wd hb_we | exact after5 HB_wd hb_we
    obtain rfl := hl.len
    clear hl HL1
    go_wp2_with fail
    refine (Late_k _ (HS.out.below HB_we) (HO.out.below HB_we) HV.out HNO.out).mono ?_
    rintro e wf ⟨o4, n4, c4, rfl, hl, hb_wf⟩
    have HB_wf : Below w.heap.size w wf := by first | exact after0 HB_we hb_wf | exact after1 HB_we hb_wf | exact after2 HB_we hb_wf | exact after3 HB_we hb_wf | exact after4 HB_we hb_wf | exact after5 HB_we hb_wf
    obtain rfl := hl.len
    clear hl
    generalize lateF l (planF l f) = A at *
    generalize lateF l k = B at *
    have HX := Lib.hid (show B.length = 0 → A.length = 0 from fun h => by rw [HBST.out (List.eq_nil_of_length_eq_zero h)]; rfl)
    generalize A.length = la at *
    generalize B.length = lb at *
    by_cases hb : lb = 0
    · have ha := HX.out hb
      subst hb
      subst ha
      go_wp2_with fail
      all_goals try (exfalso; omega)
      go_ret
      exact ⟨rfl, HB_wf⟩
    · have hb2 : 0 < (lb : Int) := by omega
      clear hb
      go_wp2_with fail
      all_goals try (exfalso; omega)
      go_ret
      exact ⟨rfl, HB_wf⟩
  · have hki : 0 < (k.length : Int) := by omega
    obtain ⟨b, off, rfl, hbb, hrow⟩ := (HO.out.below HB_wd).get hk
    obtain ⟨g_0, g_1, g_2⟩ := (hrow 0 hk).c3
    rw [Nat.zero_mul, Nat.add_zero] at g_0
    have HBST1 := Lib.hid (show f ≤ k[0].slot → lateF l k = [] → lateF l (planF l f) = [] from fun h => HBST0.out fun _ => h)
    clear hrow g_1 g_2 HBST0
    generalize k[0].slot = s0 at *
    by_cases hsf : s0 < f
    ·
      go_wp2_with fail
      all_goals try (exfalso; omega)
      go_ret
      exact ⟨rfl, HB_wd⟩
    · have HBST := Lib.hid (HBST1.out (Int.not_lt.1 hsf))
      replace hsf := Int.not_lt.1 hsf
      clear HBST1
      go_wp2_with fail
      all_goals try (exfalso; omega)
      have HN1 := Lib.hid (plan_names (J := l) h0)
      clear e1 s1 v1 h0 HP1
      go_wp2_with fail
      refine (Late_k _ (HS.out.below HB_wd) HL1.out HV.out HN1.out).mono ?_
      rintro e we ⟨o3, n3, c3, rfl, hl, hb_we⟩
      have HB_we : Below w.heap.size w we := by first | exact after0 HB_wd hb_we | exact after1 HB_wd hb_we | exact after2 HB_wd hb_we | exact after3 HB_wd hb_we | exact after4 HB_wd hb_we | exact after5 HB_wd hb_we
      obtain rfl := hl.len
      clear hl HL1
      go_wp2_with fail
      refine (Late_k _ (HS.out.below HB_we) (HO.out.below HB_we) HV.out HNO.out).mono ?_
      rintro e wf ⟨o4, n4, c4, rfl, hl, hb_wf⟩
      have HB_wf : Below w.heap.size w wf := by first | exact after0 HB_we hb_wf | exact after1 HB_we hb_wf | exact after2 HB_we hb_wf | exact after3 HB_we hb_wf | exact after4 HB_we hb_wf | exact after5 HB_we hb_wf
      obtain rfl := hl.len
      clear hl
      generalize lateF l (planF l f) = A at *
      generalize lateF l k = B at *
      have HX := Lib.hid (show B.length = 0 → A.length = 0 from fun h => by rw [HBST.out (List.eq_nil_of_length_eq_zero h)]; rfl)
      generalize A.length = la at *
      generalize B.length = lb at *
      by_cases hb : lb = 0
      · have ha := HX.out hb
        subst hb
        subst ha
        go_wp2_with fail
        all_goals try (exfalso; omega)
        go_ret
        exact ⟨rfl, HB_wf⟩
      · have hb2 : 0 < (lb : Int) := by omega
        clear hb
        go_wp2_with fail
        all_goals try (exfalso; omega)
        go_ret
        exact ⟨rfl, HB_wf⟩
end Go.Proofs.Ytheioedggjbphaa
