/-
  The law FollowMissing.
-/
import Derived.Test.YtofilkphaelceaaFoTm
set_option linter.unusedVariables false
namespace Go.Proofs.Ytofilkphaelceaa
open Go Go.RowKit Fo Sk Go.Sort


set_option maxRecDepth 100000 in
set_option maxHeartbeats 8000000 in
theorem missing_walk (hso : SortOk) (ao : Option Addr) (n cap : Nat) (l : List St) (bo : Option Addr) (m capb : Nat) (o : List Int) (co : Option Addr) (mc capc : Nat) (more : List Int) (t : Int) (w : World) (hs : SlS w ao n cap l) (hd : Sl w 1 cI bo m capb o) (he : Sl w 1 cI co mc capc more) :
    Calls Try.prog 9 #[.slice ao n cap, .slice bo m capb, .slice co mc capc, .int .i64 t] w (Ret w (.bool true)) := by
  obtain rfl := hs.1.len
  have hle := hs.1.le
  have hcap := hs.1.max
  unfold maxLen at hcap
  have HS := Lib.hid hs
  have HSO := Lib.hid hso
  have HB_w : Below w.heap.size w w := Below.refl _ _
  obtain rfl := hd.len
  have hle2 := hd.le
  have hcap2 := hd.max
  unfold maxLen at hcap2
  obtain rfl := he.len
  have hle3 := he.le
  have hcap3 := he.max
  unfold maxLen at hcap3
  have HD := Lib.hid hd
  have HE := Lib.hid he
  have HEX := Lib.hid (fun M => @miss_ex l o t M)
  obtain ⟨i0, hi, hz0, hz1, hz2⟩ := info_parts info_int
  have HI := Lib.hid hi
  have HZ0 := Lib.hid hz0
  have HZ1 := Lib.hid hz1
  have HZ2 := Lib.hid hz2
  clear hs hd he hso hi hz0 hz1 hz2
  go_enter Try.func9, Try.ntmps9
  go_wp2_with fail
  refine (head_any HSO.out _).mono ?_
  rintro e wa ⟨rfl, hb_wa⟩
  have HB_wa : Below w.heap.size w wa := by first | exact after0 HB_w hb_wa | exact after1 HB_w hb_wa | exact after2 HB_w hb_wa | exact after3 HB_w hb_wa | exact after4 HB_w hb_wa | exact after5 HB_w hb_wa
  go_wp2_with fail
  refine (rfew_any _ _ _ l _ (HS.out.below HB_wa)).mono ?_
  rintro e wb ⟨rfl, hb_wb⟩
  have HB_wb : Below w.heap.size w wb := by first | exact after0 HB_wa hb_wb | exact after1 HB_wa hb_wb | exact after2 HB_wa hb_wb | exact after3 HB_wa hb_wb | exact after4 HB_wa hb_wb | exact after5 HB_wa hb_wb
  cases h1 : fewB l
  · clear h1
    go_wp2_with fail
    all_goals try (exfalso; omega)
    go_ret
    exact ⟨rfl, HB_wb⟩
  have hl30 := (fewB_iff.1 h1).1
  clear h1
  by_cases h30 : 30 < (o.length : Int)
  ·
    go_wp2_with fail
    all_goals try (exfalso; omega)
    go_ret
    exact ⟨rfl, HB_wb⟩
  have h30' : (o.length : Int) ≤ 30 := by omega
  clear h30
  by_cases h31 : 30 < (more.length : Int)
  ·
    go_wp2_with fail
    all_goals try (exfalso; omega)
    go_ret
    exact ⟨rfl, HB_wb⟩
  have h31' : (more.length : Int) ≤ 30 := by omega
  clear h31
  have HHO := Lib.hid (rhas_any _ _ _ o t _ (HD.out.below HB_wb))
  cases hot : o.contains t
  case true =>
    rw [hot] at HHO
    clear hot
    go_wp2_with fail
    all_goals try (exfalso; omega)
    refine (HHO.out).mono ?_
    rintro e wc ⟨rfl, hb_wc⟩
    have HB_wc : Below w.heap.size w wc := by first | exact after0 HB_wb hb_wc | exact after1 HB_wb hb_wc | exact after2 HB_wb hb_wc | exact after3 HB_wb hb_wc | exact after4 HB_wb hb_wc | exact after5 HB_wb hb_wc
    go_wp2_with fail
    all_goals try (exfalso; omega)
    go_ret
    exact ⟨rfl, HB_wc⟩
  have HOT := Lib.hid hot
  rw [hot] at HHO
  clear hot
  go_wp2_with fail
  all_goals try (exfalso; omega)
  refine (HHO.out).mono ?_
  rintro e wc ⟨rfl, hb_wc⟩
  have HB_wc : Below w.heap.size w wc := by first | exact after0 HB_wb hb_wc | exact after1 HB_wb hb_wc | exact after2 HB_wb hb_wc | exact after3 HB_wb hb_wc | exact after4 HB_wb hb_wc | exact after5 HB_wb hb_wc
  clear HHO
  go_wp2_with fail
  all_goals try (exfalso; omega)
  refine (Permitted_any _ _ _ l _ _ _ o _ (HS.out.below HB_wc) (HD.out.below HB_wc)).mono ?_
  rintro e wd ⟨rfl, hb_wd⟩
  have HB_wd : Below w.heap.size w wd := by first | exact after0 HB_wc hb_wd | exact after1 HB_wc hb_wd | exact after2 HB_wc hb_wd | exact after3 HB_wc hb_wd | exact after4 HB_wc hb_wd | exact after5 HB_wc hb_wd
  go_wp2_with fail
  refine (sorted_any _ _ _ o _ (HD.out.below HB_wd) (by omega)).mono ?_
  rintro e we ⟨v, rfl, ho, hb_we⟩
  have HB_we : Below w.heap.size w we := by first | exact after0 HB_wd hb_we | exact after1 HB_wd hb_we | exact after2 HB_wd hb_we | exact after3 HB_wd hb_we | exact after4 HB_wd hb_we | exact after5 HB_wd hb_we
  obtain ⟨vo, vc, rfl, hss⟩ := ho.sl cI_len
  have HMI := Lib.hid (Missing_any HSO.out _ _ _ l _ _ _ (srt o) t _ (HS.out.below HB_we) hss)
  clear ho hss
  go_wp2_with fail
  refine (HMI.out).mono ?_
  rintro e wf ⟨xo, xn, xc, rfl, hx, hb_wf⟩
  have HB_wf : Below w.heap.size w wf := by first | exact after0 HB_we hb_wf | exact after1 HB_we hb_wf | exact after2 HB_we hb_wf | exact after3 HB_we hb_wf | exact after4 HB_we hb_wf | exact after5 HB_we hb_wf
  clear HMI
  by_cases hg : permR l o = (-1, 0) ∧ (missR l (srt o) t).2 = 0
  case neg =>
    generalize permR l o = p at *
    generalize (missR l (srt o) t).2 = f at *
    obtain ⟨x, e⟩ := p
    clear HEX hx
    by_cases he : e = 0
    · subst he
      by_cases hx : x = -1
      · subst hx
        have hf : (f != 0) = true := bne_iff_ne.2 (fun e => hg ⟨rfl, e⟩)
        have hf2 : (f == 0) = false := beq_eq_false_iff_ne.2 (fun e => hg ⟨rfl, e⟩)
        clear hg
        go_wp2_with fail
        all_goals try (exfalso; omega)
        go_ret
        exact ⟨rfl, HB_wf⟩
      · have hx1 : (x != -1) = true := bne_iff_ne.2 hx
        have hx2 : (x == -1) = false := beq_eq_false_iff_ne.2 hx
        clear hg hx
        go_wp2_with fail
        all_goals try (exfalso; omega)
        go_ret
        exact ⟨rfl, HB_wf⟩
    · have he1 : (e != 0) = true := bne_iff_ne.2 he
      have he2 : (e == 0) = false := beq_eq_false_iff_ne.2 he
      clear hg he
      go_wp2_with fail
      all_goals try (exfalso; omega)
      go_ret
      exact ⟨rfl, HB_wf⟩
  obtain ⟨hp, hf⟩ := hg
  obtain ⟨M, hM⟩ : ∃ M, (missR l (srt o) t).1 = M := ⟨_, rfl⟩
  have hmr : missR l (srt o) t = (M, 0) := by rw [← hM, ← hf]
  rw [hmr] at hx
  obtain ⟨hML, r, e1, e2, e3, e4⟩ := HEX.out M hl30 (by omega) hp hmr HOT.out
  have HE1 := Lib.hid e1
  have HE2 := Lib.hid e2
  have HE3 := Lib.hid e3
  have HE4 := Lib.hid e4
  rw [hp, hf]
  obtain rfl := hx.len
  have hxm := hx.max
  have hxl := hx.le
  unfold maxLen at hxm
  have HX := Lib.hid hx
  dsimp only at hxl ⊢
  clear hp hf hmr hM hx HEX e1 e2 e3 e4
  have hoM : (o ++ M).length = o.length + M.length := List.length_append
  have HO0 := Lib.hid (show OwnL (wf.alloc (.cells #[] 3)) wf.heap.size 3 1 cI (.slice (some ⟨wf.heap.size, 0, none⟩) 0 0) [] from OwnL.made (Nat.le_refl _))
  go_wp2_with (at_builtin; refine wpList_append_sl rfl _ _ 23 rfl wf.heap.size 3 i0 _ 1 8 Try.underlying23 HI.out HZ0.out HZ1.out HZ2.out rfl (by decide) cI_len cI_one _ [] rfl HO0.out bo o.length capb o rfl (by first | exact HD.out.below (grew1 HB_wf) | exact HD.out.below (grew1 (Below.refl _ _))) (by unfold maxLen; simp; omega) (by simp; omega) (by simp) ?_)
  rintro v_w1 w1 ho hg hgr
  have HO_w1 := Lib.hid ho
  have HB_w1 : Below w.heap.size w w1 := (grew1 HB_wf).trans (hg _ HB_wf.size)
  have hb_w1 := Lib.hid (show Below wf.heap.size wf w1 from (grew1 (Below.refl _ _)).trans (hg _ (Nat.le_refl _)))
  have hz_w1 : wf.heap.size ≤ w1.heap.size := hb_w1.out.size
  clear ho hg hgr HO0
  go_wp2_with (at_builtin; refine wpList_append_sl rfl _ _ 23 rfl wf.heap.size 3 i0 _ 1 8 Try.underlying23 HI.out HZ0.out HZ1.out HZ2.out rfl (by decide) cI_len cI_one _ o rfl HO_w1.out xo M.length xc M rfl (by first | exact HX.out.below HB_w1 | exact HX.out.below hb_w1.out | exact HX.out.below (after0 hb_wf hb_w1.out) | exact HX.out.below (after0 hb_wf.out hb_w1.out)) (by unfold maxLen; omega) (by omega) hz_w1 ?_)
  rintro v_w2 w2 ho hg hgr
  have HO_w2 := Lib.hid ho
  have HB_w2 : Below w.heap.size w w2 := HB_w1.trans (hg _ HB_wf.size)
  have hb_w2 := Lib.hid (show Below wf.heap.size wf w2 from hb_w1.out.trans (hg _ (Nat.le_refl _)))
  have hz_w2 : wf.heap.size ≤ w2.heap.size := hb_w2.out.size
  clear ho hg hgr
  obtain ⟨vo, vc, rfl, hss⟩ := OwnL.sl cI_len HO_w2.out
  rw [hoM] at hss ⊢
  have HSS := Lib.hid hss
  clear HO_w1 HO_w2 hss hz_w1 hz_w2 hb_w1
  go_wp2_with fail
  refine (sorted_any _ _ _ (o ++ M) _ HSS.out (by omega)).mono ?_
  rintro e w3 ⟨v, rfl, ho, hb_w3⟩
  have HB_w3 : Below w.heap.size w w3 := by first | exact after0 HB_w2 hb_w3 | exact after1 HB_w2 hb_w3 | exact after2 HB_w2 hb_w3 | exact after3 HB_w2 hb_w3 | exact after4 HB_w2 hb_w3 | exact after5 HB_w2 hb_w3
  obtain ⟨so, sn, rfl, hs3⟩ := ho.sl cI_len
  rw [srt_len, hoM] at hs3
  rw [srt_len, hoM]
  have HR := Lib.hid (Ready_any _ _ _ l _ _ _ (srt (o ++ M)) _ (HS.out.below HB_w3) hs3)
  rw [HE1.out] at HR
  clear ho hs3 HE1
  go_wp2_with fail
  refine (HR.out).mono ?_
  rintro e w4 ⟨ro, rn, rc, rfl, hr, hb_w4⟩
  have HB_w4 : Below w.heap.size w w4 := by first | exact after0 HB_w3 hb_w4 | exact after1 HB_w3 hb_w4 | exact after2 HB_w3 hb_w4 | exact after3 HB_w3 hb_w4 | exact after4 HB_w3 hb_w4 | exact after5 HB_w3 hb_w4
  have HRR := Lib.hid hr
  have HX4 := Lib.hid (HX.out.below (after0 (after0 hb_w2.out hb_w3) hb_w4))
  clear hr HR HX HSS hb_w2
  have HO0 := Lib.hid (show OwnL (w4.alloc (.cells #[] 3)) w4.heap.size 3 1 cI (.slice (some ⟨w4.heap.size, 0, none⟩) 0 0) [] from OwnL.made (Nat.le_refl _))
  go_wp2_with (at_builtin; refine wpList_append_sl rfl _ _ 23 rfl w4.heap.size 3 i0 _ 1 8 Try.underlying23 HI.out HZ0.out HZ1.out HZ2.out rfl (by decide) cI_len cI_one _ [] rfl HO0.out bo o.length capb o rfl (by first | exact HD.out.below (grew1 HB_w4) | exact HD.out.below (grew1 (Below.refl _ _))) (by unfold maxLen; simp; omega) (by simp; omega) (by simp) ?_)
  rintro v_w5 w5 ho hg hgr
  have HO_w5 := Lib.hid ho
  have HB_w5 : Below w.heap.size w w5 := (grew1 HB_w4).trans (hg _ HB_w4.size)
  have hb_w5 := Lib.hid (show Below w4.heap.size w4 w5 from (grew1 (Below.refl _ _)).trans (hg _ (Nat.le_refl _)))
  have hz_w5 : w4.heap.size ≤ w5.heap.size := hb_w5.out.size
  clear ho hg hgr HO0
  go_wp2_with (at_builtin; refine wpList_append_sl rfl _ _ 23 rfl w4.heap.size 3 i0 _ 1 8 Try.underlying23 HI.out HZ0.out HZ1.out HZ2.out rfl (by decide) cI_len cI_one _ o rfl HO_w5.out xo M.length xc M rfl (by first | exact HX4.out.below HB_w5 | exact HX4.out.below hb_w5.out | exact HX4.out.below (after0 hb_w4 hb_w5.out) | exact HX4.out.below (after0 hb_w4.out hb_w5.out)) (by unfold maxLen; omega) (by omega) hz_w5 ?_)
  rintro v_w6 w6 ho hg hgr
  have HO_w6 := Lib.hid ho
  have HB_w6 : Below w.heap.size w w6 := HB_w5.trans (hg _ HB_w4.size)
  have hb_w6 := Lib.hid (show Below w4.heap.size w4 w6 from hb_w5.out.trans (hg _ (Nat.le_refl _)))
  have hz_w6 : w4.heap.size ≤ w6.heap.size := hb_w6.out.size
  clear ho hg hgr
  have HOX := Lib.hid (HO_w6.out.alloc (.cells #[.int .i64 t] 3))
  have HSX : Hid (Sl (w6.alloc (.cells #[.int .i64 t] 3)) 1 cI (some ⟨w6.heap.size, 0, none⟩) 1 1 [t]) := Sl.one (x := t) cI_len (Box.new w6 (cI t) 3)
  go_wp2_with (at_builtin; refine wpList_append_sl rfl _ _ 23 rfl w4.heap.size 3 i0 _ 1 8 Try.underlying23 HI.out HZ0.out HZ1.out HZ2.out rfl (by decide) cI_len cI_one _ ((o ++ M)) rfl HOX.out (some ⟨w6.heap.size, 0, none⟩) 1 1 [t] rfl HSX.out (by unfold maxLen; omega) (by omega) (by simp; omega) ?_)
  rintro v_w7 w7 ho hg hgr
  have HO_w7 := Lib.hid ho
  have HB_w7 : Below w.heap.size w w7 := (grew1 HB_w6).trans (hg _ HB_w4.size)
  have hb_w7 := Lib.hid (show Below w4.heap.size w4 w7 from (Below.alloc hb_w6.out hz_w6 _).trans (hg _ (Nat.le_refl _)))
  clear ho hg hgr HOX HSX
  obtain ⟨vo7, vc7, rfl, hss⟩ := OwnL.sl cI_len HO_w7.out
  have hoT : (o ++ (M ++ [t])).length = o.length + (M.length + 1) := by simp
  have HE3' := HE3.out
  rw [List.append_assoc] at HE3'
  rw [hoT] at hss ⊢
  have HPC := Lib.hid (Permitted_any _ _ _ l _ _ _ (o ++ (M ++ [t])) _ (HS.out.below HB_w7) hss)
  rw [HE3'] at HPC
  clear HO_w5 HO_w6 HO_w7 hss hoT HE3 HE3' hb_w5 hb_w6 hz_w5 hz_w6
  go_wp2_with fail
  refine (HPC.out).mono ?_
  rintro e w8 ⟨rfl, hb_w8⟩
  have HB_w8 : Below w.heap.size w w8 := by first | exact after0 HB_w7 hb_w8 | exact after1 HB_w7 hb_w8 | exact after2 HB_w7 hb_w8 | exact after3 HB_w7 hb_w8 | exact after4 HB_w7 hb_w8 | exact after5 HB_w7 hb_w8
  have hb48 := Lib.hid (after0 hb_w7.out hb_w8)
  have HRH := Lib.hid (rhas_any _ _ _ r t _ (HRR.out.below hb48.out))
  rw [HE2.out] at HRH
  clear HPC HE2 hb_w7
  go_wp2_with fail
  refine (HRH.out).mono ?_
  rintro e w9 ⟨rfl, hb_w9⟩
  have HB_w9 : Below w.heap.size w w9 := by first | exact after0 HB_w8 hb_w9 | exact after1 HB_w8 hb_w9 | exact after2 HB_w8 hb_w9 | exact after3 HB_w8 hb_w9 | exact after4 HB_w8 hb_w9 | exact after5 HB_w8 hb_w9
  have HX9 := Lib.hid (HX4.out.below (after0 hb48.out hb_w9))
  clear HRH HRR HX4 hb48 hoM
  have HO0 := Lib.hid (show OwnL (w9.alloc (.cells #[] 3)) w9.heap.size 3 1 cI (.slice (some ⟨w9.heap.size, 0, none⟩) 0 0) [] from OwnL.made (Nat.le_refl _))
  go_wp2_with (at_builtin; refine wpList_append_sl rfl _ _ 23 rfl w9.heap.size 3 i0 _ 1 8 Try.underlying23 HI.out HZ0.out HZ1.out HZ2.out rfl (by decide) cI_len cI_one _ [] rfl HO0.out bo o.length capb o rfl (by first | exact HD.out.below (grew1 HB_w9) | exact HD.out.below (grew1 (Below.refl _ _))) (by unfold maxLen; simp; omega) (by simp; omega) (by simp) ?_)
  rintro v_v1 v1 ho hg hgr
  have HO_v1 := Lib.hid ho
  have HB_v1 : Below w.heap.size w v1 := (grew1 HB_w9).trans (hg _ HB_w9.size)
  have hb_v1 := Lib.hid (show Below w9.heap.size w9 v1 from (grew1 (Below.refl _ _)).trans (hg _ (Nat.le_refl _)))
  have hz_v1 : w9.heap.size ≤ v1.heap.size := hb_v1.out.size
  clear ho hg hgr HO0
  go_wp2_with (at_builtin; refine wpList_append_sl rfl _ _ 23 rfl w9.heap.size 3 i0 _ 1 8 Try.underlying23 HI.out HZ0.out HZ1.out HZ2.out rfl (by decide) cI_len cI_one _ o rfl HO_v1.out co more.length capc more rfl (by first | exact HE.out.below HB_v1 | exact HE.out.below hb_v1.out | exact HE.out.below (after0 hb_w9 hb_v1.out) | exact HE.out.below (after0 hb_w9.out hb_v1.out)) (by unfold maxLen; omega) (by omega) hz_v1 ?_)
  rintro v_v2 v2 ho hg hgr
  have HO_v2 := Lib.hid ho
  have HB_v2 : Below w.heap.size w v2 := HB_v1.trans (hg _ HB_w9.size)
  have hb_v2 := Lib.hid (show Below w9.heap.size w9 v2 from hb_v1.out.trans (hg _ (Nat.le_refl _)))
  have hz_v2 : w9.heap.size ≤ v2.heap.size := hb_v2.out.size
  clear ho hg hgr
  have HX2 := Lib.hid (HX9.out.below hb_v2.out)
  have hA2 : (o ++ more).length ≤ 60 := by simp; omega
  have HE5 := Lib.hid (HE4.out more (by omega))
  have HOA := HO_v2.out
  clear HO_v1 HO_v2 hb_v1 hb_v2 hz_v1 hz_v2 HE4 HX9
  generalize o ++ more = A at *
  obtain ⟨vo, vc, rfl, hss⟩ := OwnL.sl cI_len HOA
  have HAS := Lib.hid hss
  have hvm := hss.max
  have hvl := hss.le
  unfold maxLen at hvm
  clear HOA hss
  go_wp2_with fail
  refine (Permitted_any _ _ _ l _ _ _ A _ (HS.out.below HB_v2) HAS.out).mono ?_
  rintro e v3 ⟨rfl, hb_v3⟩
  have HB_v3 : Below w.heap.size w v3 := by first | exact after0 HB_v2 hb_v3 | exact after1 HB_v2 hb_v3 | exact after2 HB_v2 hb_v3 | exact after3 HB_v2 hb_v3 | exact after4 HB_v2 hb_v3 | exact after5 HB_v2 hb_v3
  by_cases hp : permR l A = (-1, 0)
  case neg =>
    generalize permR l A = p at *
    obtain ⟨x, e⟩ := p
    clear HE5
    by_cases he : e = 0
    · subst he
      have hx : (x != -1) = true := bne_iff_ne.2 (fun e => hp (by rw [e]))
      have hx2 : (x == -1) = false := beq_eq_false_iff_ne.2 (fun e => hp (by rw [e]))
      clear hp
      go_wp2_with fail
      all_goals try (exfalso; omega)
      go_ret
      exact ⟨rfl, HB_v3⟩
    · have he1 : (e != 0) = true := bne_iff_ne.2 he
      have he2 : (e == 0) = false := beq_eq_false_iff_ne.2 he
      clear hp he
      go_wp2_with fail
      all_goals try (exfalso; omega)
      go_ret
      exact ⟨rfl, HB_v3⟩
  have HE6 := Lib.hid (HE5.out hp)
  rw [hp]
  have HAS3 := Lib.hid (HAS.out.below hb_v3)
  have HHA := Lib.hid (rhas_any _ _ _ A t _ HAS3.out)
  clear hp HE5
  go_wp2_with fail
  all_goals try (exfalso; omega)
  cases hat : A.contains t
  · rw [hat] at HHA
    clear hat
    refine (HHA.out).mono ?_
    rintro e v4 ⟨rfl, hb_v4⟩
    have HB_v4 : Below w.heap.size w v4 := by first | exact after0 HB_v3 hb_v4 | exact after1 HB_v3 hb_v4 | exact after2 HB_v3 hb_v4 | exact after3 HB_v3 hb_v4 | exact after4 HB_v3 hb_v4 | exact after5 HB_v3 hb_v4
    go_wp2_with fail
    all_goals try (exfalso; omega)
    go_ret
    exact ⟨rfl, HB_v4⟩
  have HE7 := Lib.hid (HE6.out hat)
  rw [hat] at HHA
  clear hat HE6
  refine (HHA.out).mono ?_
  rintro e v4 ⟨rfl, hb_v4⟩
  have HB_v4 : Below w.heap.size w v4 := by first | exact after0 HB_v3 hb_v4 | exact after1 HB_v3 hb_v4 | exact after2 HB_v3 hb_v4 | exact after3 HB_v3 hb_v4 | exact after4 HB_v3 hb_v4 | exact after5 HB_v3 hb_v4
  replace HAS := Lib.hid (HAS3.out.below hb_v4)
  have HX4 := Lib.hid (HX2.out.below (after0 hb_v3 hb_v4))
  clear HHA HAS3 HX2
  go_wp2_with fail
  all_goals try (exfalso; omega)
  go_loopw [9, 136] (fun up i wr => ∃ (k : Nat), k ≤ M.length ∧ up = .bool true ∧ i = .int .i64 k ∧ Hid (Below v4.heap.size v4 wr)) (fun _ i _ => M.length - (intOf i).toNat)
  case atStart => exact ⟨0, Nat.zero_le _, rfl, rfl, Below.refl _ _⟩
  case round =>
    obtain ⟨k, hk, rfl, rfl, HB5⟩ := hrel
    have HB_wr := after0 HB_v4 HB5.out
    by_cases hlk : k < M.length
    · obtain ⟨b, off, rfl, hb, hrow⟩ := (HX4.out.below HB5.out).get hlk
      have e_0 := (hrow k hlk).c1
      rw [Nat.mul_one] at e_0
      obtain ⟨f1, f2⟩ := HE7.out _ (List.getElem_mem hlk)
      have HF1 := Lib.hid f1
      have HF2 := Lib.hid f2
      clear hrow f1 f2
      generalize M[k] = mm at *
      go_wp2_with fail
      clear e_0
      go_loopw [9, 142] (fun up i wr => ∃ (q : Nat), q ≤ A.length ∧ up = .bool true ∧ i = .int .i64 q ∧ Hid (Below v4.heap.size v4 wr) ∧ Hid (∀ j, j < q → A[j]? ≠ some mm)) (fun _ i _ => A.length - (intOf i).toNat)
      case atStart => exact ⟨0, Nat.zero_le _, rfl, rfl, HB5.out, fun j h => absurd h (Nat.not_lt_zero _)⟩
      case round =>
        clear HB5 HB_wr
        obtain ⟨q, hq, rfl, rfl, HB5, HJ⟩ := hrel
        have HB_wr := after0 HB_v4 HB5.out
        by_cases hlq : q < A.length
        · obtain ⟨b2, off2, rfl, hb2, hrow⟩ := (HAS.out.below HB5.out).get hlq
          have e_0 := (hrow q hlq).c1
          rw [Nat.mul_one] at e_0
          have HAQ := Lib.hid (List.getElem?_eq_getElem hlq)
          have HF3 := Lib.hid (HF2.out q hlq)
          clear hrow
          generalize A[q] = x at *
          by_cases hxm : x = mm
          · have hx1 : (x == mm) = true := beq_iff_eq.2 hxm
            clear HJ HF3 HAQ hxm
            have HHA := Lib.hid (rhas_any _ _ _ A mm _ (HAS.out.below HB5.out))
            rw [HF1.out] at HHA
            go_wp2_with fail
            refine (HHA.out).mono ?_
            rintro e w9 ⟨rfl, hb_w9⟩
            have HB_w9 : Below w.heap.size w w9 := by first | exact after0 HB_wr hb_w9 | exact after1 HB_wr hb_w9 | exact after2 HB_wr hb_w9 | exact after3 HB_wr hb_w9 | exact after4 HB_wr hb_w9 | exact after5 HB_wr hb_w9
            have HB59 := Lib.hid (after0 HB5.out hb_w9)
            clear HHA
            go_wp2_with fail
            go_roundw
            case rel => exact ⟨k + 1, hlk, rfl, by go_num, HB59.out⟩
            case measure => simp [intOf] <;> omega
          · have hx1 : (x == mm) = false := beq_eq_false_iff_ne.2 hxm
            have hx2 : (x != t) = true := bne_iff_ne.2 (fun e => by
              obtain ⟨j, hj, he⟩ := HF3.out e
              exact HJ.out j hj he)
            have HJ2 := Lib.hid (show ∀ j, j < q + 1 → A[j]? ≠ some mm from fun j hj => by
              rcases Nat.lt_succ_iff_lt_or_eq.1 hj with h | rfl
              · exact HJ.out j h
              · rw [HAQ.out]; exact fun e => hxm (Option.some.inj e))
            clear HJ HF3 HAQ hxm
            go_wp2_with fail
            go_roundw
            case rel => exact ⟨q + 1, hlq, rfl, by go_num, HB5.out, HJ2.out⟩
            case measure => simp [intOf] <;> omega
        · clear HJ
          have HHA := Lib.hid (rhas_any _ _ _ A mm _ (HAS.out.below HB5.out))
          rw [HF1.out] at HHA
          go_wp2_with fail
          refine (HHA.out).mono ?_
          rintro e w9 ⟨rfl, hb_w9⟩
          have HB_w9 : Below w.heap.size w w9 := by first | exact after0 HB_wr hb_w9 | exact after1 HB_wr hb_w9 | exact after2 HB_wr hb_w9 | exact after3 HB_wr hb_w9 | exact after4 HB_wr hb_w9 | exact after5 HB_wr hb_w9
          have HB59 := Lib.hid (after0 HB5.out hb_w9)
          clear HHA
          go_wp2_with fail
          go_roundw
          case rel => exact ⟨k + 1, hlk, rfl, by go_num, HB59.out⟩
          case measure => simp [intOf] <;> omega
    · obtain rfl : k = M.length := by omega
      go_wp2_with fail
      all_goals try (exfalso; omega)
      go_ret
      exact ⟨rfl, HB_wr⟩
end Go.Proofs.Ytofilkphaelceaa
