/-
  Walks of the reference of the layer 'eyes': Replay, At.
-/
import Derived.Test.YtmbnhlihcnbebaaEyRF
set_option linter.unusedVariables false
namespace Go.Proofs.Ytmbnhlihcnbebaa
open Go Go.RowKit Ey Sk Go.Sort


set_option maxRecDepth 100000 in
set_option maxHeartbeats 8000000 in
theorem rreplay_any (ao : Option Addr) (n cap : Nat) (l : List Ac) (w : World) (hs : Sl w 8 cA ao n cap l) (hl : l.length ≤ 50000) : Calls Try.prog 22 #[.slice ao n cap] w (ReplE w (replS l)) := by
  obtain rfl := hs.len
  have hcap := hs.max
  have hle := hs.le
  unfold maxLen at hcap
  have HS := Lib.hid hs
  have HB_w : Below w.heap.size w w := Below.refl _ _
  obtain ⟨i0, hi, hz0, hz1, hz2⟩ := info_parts info_errno
  have HI := Lib.hid hi
  have HZ0 := Lib.hid hz0
  have HZ1 := Lib.hid hz1
  have HZ2 := Lib.hid hz2
  clear hs hi hz0 hz1 hz2
  go_enter Try.func22, Try.ntmps22
  go_wp2_with fail
  go_loopw [4, 5, 6, 7] (fun vo vc la i wr => ∃ k : Nat, k ≤ l.length ∧ i = .int .i64 k ∧ la = .int .i64 (replS (l.take k)).last ∧ Below w.heap.size w wr ∧ Hid (OwnL wr w.heap.size 33 12 cD vo (replS (l.take k)).L) ∧ Hid (OwnL wr w.heap.size 25 1 cI vc (replS (l.take k)).came) ∧ Hid (Apart vo vc)) (fun _ _ _ i _ => l.length - (intOf i).toNat)
  case atStart => exact ⟨0, by omega, rfl, rfl, HB_w, OwnL.nil, OwnL.nil, apart_nil _⟩
  case round =>
    obtain ⟨k, hk, rfl, rfl, HB_wr, HO, HC, HAP⟩ := hrel
    by_cases hlt : k < l.length
    · obtain ⟨b', off, rfl, hb, hrow⟩ := HS.out.get hlt
      obtain ⟨e_0, e_1, e_2, e_3, e_4, e_5, e_6, e_7⟩ := ((hrow k hlt).below HB_wr hb).c8
      have HROW := Lib.hid (hrow k hlt)
      have hcl := replS_came (l.take k)
      rw [List.length_take_of_le hk] at hcl
      have HN := Lib.hid (replS_succ hlt)
      have H1 := Lib.hid (@rstep_limit (replS (l.take k)) l[k])
      have H2 := Lib.hid (@rstep_arg (replS (l.take k)) l[k])
      have H3 := Lib.hid (@rstep_old (replS (l.take k)) l[k])
      have H4 := Lib.hid (@rstep_do (replS (l.take k)) l[k])
      have HST := Lib.hid (replS_state (l.take k))
      have HVA := Lib.hid (fun W => ract_any l[k] W)
      have HDO := Lib.hid (fun ao n cap w hs => rdo_own ao n cap (replS (l.take k)).L l[k] w hs)
      have HOK := Lib.hid (@doR_ok (replS (l.take k)).L l[k])
      have HER := Lib.hid (@doR_err (replS (l.take k)).L l[k])
      have HSA := Lib.hid (@actS_err (replS (l.take k)).L l[k])
      clear hrow
      generalize replS (l.take k) = s at *
      generalize l[k] = a at *
      obtain ⟨L, la, cm⟩ := s
      dsimp only at hcl H1 H2 H3 H4 HO HC HST HDO HOK HER HSA
      generalize doR L a = r at *
      obtain ⟨a0, a1, a2, a3, ⟨a4, a5, a6, a7⟩⟩ := a
      dsimp only at e_0 e_1 e_2 e_3 e_4 e_5 e_6 e_7
      dsimp only [eA] at HVA HDO
      go_wp2_with fail
      refine (HVA.out _).mono ?_
      rintro e wa ⟨rfl, hb_wa⟩
      have HB_wa : Below w.heap.size w wa := by first | exact after0 HB_wr hb_wa | exact after1 HB_wr hb_wa | exact after2 HB_wr hb_wa | exact after3 HB_wr hb_wa | exact after4 HB_wr hb_wa | exact after5 HB_wr hb_wa
      replace HO := Lib.hid (HO.out.below hb_wa)
      replace HC := Lib.hid (HC.out.below hb_wa)
      clear e_0 e_1 e_2 e_3 e_4 e_5 e_6 e_7 HVA
      by_cases h200 : 200 ≤ k
      · have HNX := Lib.hid (HN.out.trans (H1.out (by omega)))
        have h2i : 200 ≤ (k : Int) := by omega
        clear H1 H2 H3 H4 HN HDO HOK HER HSA HST HROW
        generalize validA ⟨a0, a1, a2, a3, ⟨a4, a5, a6, a7⟩⟩ = va at *
        have HCX := Lib.hid (HC.out.alloc (.cells #[.int .i64 2] 25))
        have HOX := Lib.hid (HO.out.alloc (.cells #[.int .i64 2] 25))
        have HSX : Hid (Sl (wa.alloc (.cells #[.int .i64 2] 25)) 1 cI (some ⟨wa.heap.size, 0, none⟩) 1 1 [2]) := Sl.one (x := 2) cI_len (Box.new wa (cI 2) 25)
        have hszx : w.heap.size ≤ (wa.alloc (.cells #[.int .i64 2] 25)).heap.size := by have := HB_wa.size; simp; omega
        go_wp2_with (at_builtin; refine wpList_append_lie rfl _ _ 39 rfl w.heap.size 25 i0 _ 1 8 Try.underlying39 HI.out HZ0.out HZ1.out HZ2.out rfl (by decide) cI_len cI_one _ cm rfl HCX.out (some ⟨wa.heap.size, 0, none⟩) 1 1 [2] rfl HSX.out (by decide) (by unfold maxLen; omega) (by omega) hszx ?_)
        rintro g6 cap6 w6 ho6 hg6 hgr6 hat6 hlt6
        have HB_6 : Below w.heap.size w w6 := (grew1 HB_wa).trans (hg6 _ (Nat.le_refl _))
        have HC6 := Lib.hid ho6
        have HO6 := Lib.hid (OwnL.far HOX.out hgr6 HAP.out)
        have HAP6 := Lib.hid (Apart.lie (n := cm.length + 1) (cap := cap6) HAP.out.symm (fun k e => (World.ownsRow.lt HOX.out k e).2) (by simpa using hat6)).symm
        clear ho6 hg6 hgr6 hat6 hlt6 HCX HOX HSX hszx HC HO HAP
        go_wp2_with fail
        go_roundw
        case rel => exact ⟨k + 1, hlt, by go_num, by rw [HNX.out], HB_6, by rw [HNX.out]; exact HO6.out, by rw [HNX.out]; exact HC6.out, HAP6.out⟩
        case measure => simp [intOf] <;> omega
      have h2i : (k : Int) < 200 := by omega
      have hc2 : ¬ 200 ≤ cm.length := by omega
      replace H2 := Lib.hid (H2.out hc2)
      replace H3 := Lib.hid (H3.out hc2)
      replace H4 := Lib.hid (H4.out hc2)
      clear h200 hc2 H1
      cases h1 : validA ⟨a0, a1, a2, a3, ⟨a4, a5, a6, a7⟩⟩
      · have HNX := Lib.hid (HN.out.trans (H2.out h1))
        clear h1 H2 H3 H4 HN HDO HOK HER HSA HST HROW
        have HCX := Lib.hid (HC.out.alloc (.cells #[.int .i64 1] 25))
        have HOX := Lib.hid (HO.out.alloc (.cells #[.int .i64 1] 25))
        have HSX : Hid (Sl (wa.alloc (.cells #[.int .i64 1] 25)) 1 cI (some ⟨wa.heap.size, 0, none⟩) 1 1 [1]) := Sl.one (x := 1) cI_len (Box.new wa (cI 1) 25)
        have hszx : w.heap.size ≤ (wa.alloc (.cells #[.int .i64 1] 25)).heap.size := by have := HB_wa.size; simp; omega
        go_wp2_with (at_builtin; refine wpList_append_lie rfl _ _ 39 rfl w.heap.size 25 i0 _ 1 8 Try.underlying39 HI.out HZ0.out HZ1.out HZ2.out rfl (by decide) cI_len cI_one _ cm rfl HCX.out (some ⟨wa.heap.size, 0, none⟩) 1 1 [1] rfl HSX.out (by decide) (by unfold maxLen; omega) (by omega) hszx ?_)
        rintro g6 cap6 w6 ho6 hg6 hgr6 hat6 hlt6
        have HB_6 : Below w.heap.size w w6 := (grew1 HB_wa).trans (hg6 _ (Nat.le_refl _))
        have HC6 := Lib.hid ho6
        have HO6 := Lib.hid (OwnL.far HOX.out hgr6 HAP.out)
        have HAP6 := Lib.hid (Apart.lie (n := cm.length + 1) (cap := cap6) HAP.out.symm (fun k e => (World.ownsRow.lt HOX.out k e).2) (by simpa using hat6)).symm
        clear ho6 hg6 hgr6 hat6 hlt6 HCX HOX HSX hszx HC HO HAP
        go_wp2_with fail
        go_roundw
        case rel => exact ⟨k + 1, hlt, by go_num, by rw [HNX.out], HB_6, by rw [HNX.out]; exact HO6.out, by rw [HNX.out]; exact HC6.out, HAP6.out⟩
        case measure => simp [intOf] <;> omega
      replace H3 := Lib.hid (H3.out h1)
      replace H4 := Lib.hid (H4.out h1)
      replace HOK := Lib.hid (HOK.out HST.out h1)
      replace HER := Lib.hid (HER.out HST.out h1)
      clear h1 H2 HST
      obtain ⟨e_0, e_1, e_2, e_3, e_4, e_5, e_6, e_7⟩ := (HROW.out.below HB_wa hb).c8
      dsimp only at e_0 e_1 e_2 e_3 e_4 e_5 e_6 e_7
      by_cases hold : a3 < la
      · have HNX := Lib.hid (HN.out.trans (H3.out hold))
        clear H3 H4 HN HDO HOK HER HSA HROW
        have HCX := Lib.hid (HC.out.alloc (.cells #[.int .i64 13] 25))
        have HOX := Lib.hid (HO.out.alloc (.cells #[.int .i64 13] 25))
        have HSX : Hid (Sl (wa.alloc (.cells #[.int .i64 13] 25)) 1 cI (some ⟨wa.heap.size, 0, none⟩) 1 1 [13]) := Sl.one (x := 13) cI_len (Box.new wa (cI 13) 25)
        have hszx : w.heap.size ≤ (wa.alloc (.cells #[.int .i64 13] 25)).heap.size := by have := HB_wa.size; simp; omega
        go_wp2_with (at_builtin; refine wpList_append_lie rfl _ _ 39 rfl w.heap.size 25 i0 _ 1 8 Try.underlying39 HI.out HZ0.out HZ1.out HZ2.out rfl (by decide) cI_len cI_one _ cm rfl HCX.out (some ⟨wa.heap.size, 0, none⟩) 1 1 [13] rfl HSX.out (by decide) (by unfold maxLen; omega) (by omega) hszx ?_)
        rintro g6 cap6 w6 ho6 hg6 hgr6 hat6 hlt6
        have HB_6 : Below w.heap.size w w6 := (grew1 HB_wa).trans (hg6 _ (Nat.le_refl _))
        have HC6 := Lib.hid ho6
        have HO6 := Lib.hid (OwnL.far HOX.out hgr6 HAP.out)
        have HAP6 := Lib.hid (Apart.lie (n := cm.length + 1) (cap := cap6) HAP.out.symm (fun k e => (World.ownsRow.lt HOX.out k e).2) (by simpa using hat6)).symm
        clear ho6 hg6 hgr6 hat6 hlt6 HCX HOX HSX hszx HC HO HAP
        go_wp2_with fail
        go_roundw
        case rel => exact ⟨k + 1, hlt, by go_num, by rw [HNX.out], HB_6, by rw [HNX.out]; exact HO6.out, by rw [HNX.out]; exact HC6.out, HAP6.out⟩
        case measure => simp [intOf] <;> omega
      replace HN := Lib.hid (HN.out.trans (H4.out (by omega)))
      replace hold := Int.not_lt.1 hold
      try dsimp only at HN
      clear H3 H4
      obtain ⟨oo, oc, rfl, hso⟩ := HO.out.sl cD_len
      have HD2 := Lib.hid (HDO.out _ _ _ wa hso)
      clear HDO hso
      go_wp2_with fail
      refine (HD2.out).mono ?_
      rintro e wb ⟨v', rfl, ho', hb_wb⟩
      have HB_wb : Below w.heap.size w wb := by first | exact after0 HB_wa hb_wb | exact after1 HB_wa hb_wb | exact after2 HB_wa hb_wb | exact after3 HB_wa hb_wb | exact after4 HB_wa hb_wb | exact after5 HB_wa hb_wb
      replace HO := Lib.hid (HO.out.below hb_wb)
      have HAP2 := Lib.hid (Apart.later HC.out ho' (Nat.le_refl _))
      have HO2 := Lib.hid (ho'.mono HB_wa.size)
      replace HC := Lib.hid (HC.out.below hb_wb)
      clear HD2 ho' e_0 e_1 e_2 e_3 e_4 e_5 e_6 e_7 HROW
      generalize actS L ⟨a0, a1, a2, a3, ⟨a4, a5, a6, a7⟩⟩ = act at *
      obtain ⟨L2, q⟩ := act
      dsimp only at HOK HER HSA HN
      by_cases hq : q = 0
      · subst hq
        obtain rfl := HOK.out rfl
        have HNX := HN
        replace HO := HO2
        replace HAP := HAP2
        dsimp only at HO
        clear HN HO2 HAP2 HOK HER HSA
        have HCX := Lib.hid (HC.out.alloc (.cells #[.int .i64 0] 25))
        have HOX := Lib.hid (HO.out.alloc (.cells #[.int .i64 0] 25))
        have HSX : Hid (Sl (wb.alloc (.cells #[.int .i64 0] 25)) 1 cI (some ⟨wb.heap.size, 0, none⟩) 1 1 [0]) := Sl.one (x := 0) cI_len (Box.new wb (cI 0) 25)
        have hszx : w.heap.size ≤ (wb.alloc (.cells #[.int .i64 0] 25)).heap.size := by have := HB_wb.size; simp; omega
        go_wp2_with (at_builtin; refine wpList_append_lie rfl _ _ 39 rfl w.heap.size 25 i0 _ 1 8 Try.underlying39 HI.out HZ0.out HZ1.out HZ2.out rfl (by decide) cI_len cI_one _ cm rfl HCX.out (some ⟨wb.heap.size, 0, none⟩) 1 1 [0] rfl HSX.out (by decide) (by unfold maxLen; omega) (by omega) hszx ?_)
        rintro g6 cap6 w6 ho6 hg6 hgr6 hat6 hlt6
        have HB_6 : Below w.heap.size w w6 := (grew1 HB_wb).trans (hg6 _ (Nat.le_refl _))
        have HC6 := Lib.hid ho6
        have HO6 := Lib.hid (OwnL.far HOX.out hgr6 HAP.out)
        have HAP6 := Lib.hid (Apart.lie (n := cm.length + 1) (cap := cap6) HAP.out.symm (fun k e => (World.ownsRow.lt HOX.out k e).2) (by simpa using hat6)).symm
        clear ho6 hg6 hgr6 hat6 hlt6 HCX HOX HSX hszx HC HO HAP
        go_wp2_with fail
        go_roundw
        case rel => exact ⟨k + 1, hlt, by go_num, by rw [HNX.out], HB_6, by rw [HNX.out]; exact HO6.out, by rw [HNX.out]; exact HC6.out, HAP6.out⟩
        case measure => simp [intOf] <;> omega
      · obtain rfl := HER.out hq
        have hq1 : (q == 0) = false := beq_eq_false_iff_ne.2 hq
        have hLL := HSA.out hq
        have HNX := Lib.hid (HN.out.trans (by rw [hLL]))
        clear HN HO2 HAP2 HOK HER HSA hLL hq
        have HCX := Lib.hid (HC.out.alloc (.cells #[.int .i64 q] 25))
        have HOX := Lib.hid (HO.out.alloc (.cells #[.int .i64 q] 25))
        have HSX : Hid (Sl (wb.alloc (.cells #[.int .i64 q] 25)) 1 cI (some ⟨wb.heap.size, 0, none⟩) 1 1 [q]) := Sl.one (x := q) cI_len (Box.new wb (cI q) 25)
        have hszx : w.heap.size ≤ (wb.alloc (.cells #[.int .i64 q] 25)).heap.size := by have := HB_wb.size; simp; omega
        go_wp2_with (at_builtin; refine wpList_append_lie rfl _ _ 39 rfl w.heap.size 25 i0 _ 1 8 Try.underlying39 HI.out HZ0.out HZ1.out HZ2.out rfl (by decide) cI_len cI_one _ cm rfl HCX.out (some ⟨wb.heap.size, 0, none⟩) 1 1 [q] rfl HSX.out (by decide) (by unfold maxLen; omega) (by omega) hszx ?_)
        rintro g6 cap6 w6 ho6 hg6 hgr6 hat6 hlt6
        have HB_6 : Below w.heap.size w w6 := (grew1 HB_wb).trans (hg6 _ (Nat.le_refl _))
        have HC6 := Lib.hid ho6
        have HO6 := Lib.hid (OwnL.far HOX.out hgr6 HAP.out)
        have HAP6 := Lib.hid (Apart.lie (n := cm.length + 1) (cap := cap6) HAP.out.symm (fun k e => (World.ownsRow.lt HOX.out k e).2) (by simpa using hat6)).symm
        clear ho6 hg6 hgr6 hat6 hlt6 HCX HOX HSX hszx HC HO HAP
        go_wp2_with fail
        go_roundw
        case rel => exact ⟨k + 1, hlt, by go_num, by rw [HNX.out], HB_6, by rw [HNX.out]; exact HO6.out, by rw [HNX.out]; exact HC6.out, HAP6.out⟩
        case measure => simp [intOf] <;> omega
    · obtain rfl : k = l.length := by omega
      rw [List.take_length] at HO HC
      obtain ⟨o1, c1, rfl, hs1⟩ := HO.out.sl cD_len
      obtain ⟨o2, c2, rfl, hs2⟩ := HC.out.sl cI_len
      have H1 := Lib.hid hs1
      have H2 := Lib.hid hs2
      clear hs1 hs2 HO HC HAP
      go_wp2_with fail
      go_ret2
      exact ⟨_, _, _, _, rfl, H1.out, H2.out, HB_wr⟩

set_option maxRecDepth 100000 in
set_option maxHeartbeats 8000000 in
theorem rat_any (ao : Option Addr) (n cap : Nat) (l : List Ac) (t : Int) (w : World) (hs : Sl w 8 cA ao n cap l) : Calls Try.prog 23 #[.slice ao n cap, .int .i64 t] w (DgsE w (atR l t)) := by
  obtain rfl := hs.len
  have HS := Lib.hid hs
  have HB_w : Below w.heap.size w w := Below.refl _ _
  have HBAD := Lib.hid (@atR_bad l t)
  have HOK := Lib.hid (@atR_ok l t)
  have HRV := Lib.hid (show validL l = true → (replS (untilL l t)).L = stS (untilL l t) ∧ l.length ≤ 200 from fun h => ⟨rep_valid (by rw [until_eq]; exact validL_take _ h), (validL_iff.1 h).1⟩)
  have hul := until_len l t
  have HUT := Lib.hid (until_eq l t)
  clear hs
  unfold DgsE
  generalize atR l t = r at *
  go_enter Try.func23, Try.ntmps23
  go_wp2_with fail
  refine (rvalid_any _ _ _ l _ HS.out).mono ?_
  rintro e wa ⟨rfl, hb_wa⟩
  have HB_wa : Below w.heap.size w wa := by first | exact after0 HB_w hb_wa | exact after1 HB_w hb_wa | exact after2 HB_w hb_wa | exact after3 HB_w hb_wa | exact after4 HB_w hb_wa | exact after5 HB_w hb_wa
  go_wp2_with fail
  refine (rtime_any t _).mono ?_
  rintro e wb ⟨rfl, hb_wb⟩
  have HB_wb : Below w.heap.size w wb := by first | exact after0 HB_wa hb_wb | exact after1 HB_wa hb_wb | exact after2 HB_wa hb_wb | exact after3 HB_wa hb_wb | exact after4 HB_wa hb_wb | exact after5 HB_wa hb_wb
  cases h1 : validL l
  · have HP := Lib.hid (HBAD.out (.inl h1))
    clear h1 HBAD HOK HRV
    generalize timeB t = q at *
    go_wp2_with fail
    all_goals try (exfalso; omega)
    go_ret2
    exact ⟨none, 0, 0, by rw [HP.out]; rfl, by rw [HP.out]; exact Sl.nil, HB_wb⟩
  cases h2 : timeB t
  · have HP := Lib.hid (HBAD.out (.inr h2))
    clear h1 h2 HBAD HOK HRV
    go_wp2_with fail
    all_goals try (exfalso; omega)
    go_ret2
    exact ⟨none, 0, 0, by rw [HP.out]; rfl, by rw [HP.out]; exact Sl.nil, HB_wb⟩
  have HP := Lib.hid (HOK.out h1 h2)
  obtain ⟨hrv, hl200⟩ := HRV.out h1
  rw [← hrv] at HP
  clear h1 h2 HBAD HOK HRV hrv
  have HSU := Lib.hid (show Sl w 8 cA ao (untilL l t).length cap (untilL l t) by
    have := HS.out.take (n := (untilL l t).length) hul
    rwa [← HUT.out] at this)
  have HUA := Lib.hid (runtil_any ao l.length cap l t wb (HS.out.below HB_wb))
  generalize untilL l t = u at *
  clear HUT
  go_wp2_with fail
  all_goals try (exfalso; omega)
  refine (HUA.out).mono ?_
  rintro e wc ⟨rfl, hb_wc⟩
  have HB_wc : Below w.heap.size w wc := by first | exact after0 HB_wb hb_wc | exact after1 HB_wb hb_wc | exact after2 HB_wb hb_wc | exact after3 HB_wb hb_wc | exact after4 HB_wb hb_wc | exact after5 HB_wb hb_wc
  go_wp2_with fail
  refine (rreplay_any _ _ _ u _ (HSU.out.below HB_wc) (by omega)).mono ?_
  rintro e wd ⟨a1, c1, a2, c2, rfl, hs1, -, hb_wd⟩
  have HB_wd : Below w.heap.size w wd := by first | exact after0 HB_wc hb_wd | exact after1 HB_wc hb_wd | exact after2 HB_wc hb_wd | exact after3 HB_wc hb_wd | exact after4 HB_wc hb_wd | exact after5 HB_wc hb_wd
  have H1 := Lib.hid hs1
  clear hs1
  go_wp2_with fail
  go_ret2
  exact ⟨_, _, _, by rw [HP.out]; rfl, by rw [HP.out]; exact H1.out, HB_wd⟩
end Go.Proofs.Ytmbnhlihcnbebaa
