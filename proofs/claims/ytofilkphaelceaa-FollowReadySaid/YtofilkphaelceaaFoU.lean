/-
  The law FollowReady.
-/
import Derived.Test.YtofilkphaelceaaFoR
import Derived.Test.YtofilkphaelceaaFoT
set_option linter.unusedVariables false
namespace Go.Proofs.Ytofilkphaelceaa
open Go Go.RowKit Fo Sk Go.Sort


/-- what the order with one more integer is, and what is ready -/
theorem ready_ex (l : List St) (o : List Int) (t : Int) (hl : o.length ≤ 29) (h : permR l o = (-1, 0)) : ∃ (i : Int) (r : List Int) (q : Bool), readyR l (srt o) = (r, 0) ∧ permR l (o ++ [t]) = (i, 0) ∧ r.contains t = q ∧ ((i = -1 ∧ q = true) ∨ (i = o.length ∧ q = false)) := by
  have hv : valid l = true := by
    cases hq : valid l with
    | true => rfl
    | false => rw [permR_bad (.inl hq)] at h; cases h
  have hok := vok hv
  rw [permR_ok hv (by omega)] at h
  have hP : PermP l o := permF_iff.1 (Prod.mk.inj h).1
  have hd : isDone (srt o) = true := done_srt hok (PermP.nodup hP) (PermP.num hok hP) (by omega)
  refine ⟨_, _, _, readyR_ok hv hd, permR_ok hv (by simp; omega), rfl, ?_⟩
  rw [ready_has hok, permF_snoc hP, nxt_congr (q := o) (fun y => srt_mem)]
  cases nxt l o t <;> simp

set_option maxRecDepth 100000 in
set_option maxHeartbeats 8000000 in
theorem ready_walk (hso : SortOk) (ao : Option Addr) (n cap : Nat) (l : List St) (bo : Option Addr) (m capb : Nat) (o : List Int) (t : Int) (w : World) (hs : SlS w ao n cap l) (hd : Sl w 1 cI bo m capb o) :
    Calls Try.prog 4 #[.slice ao n cap, .slice bo m capb, .int .i64 t] w (Ret w (.bool true)) := by
  obtain rfl := hs.1.len
  have hle := hs.1.le
  have hcap := hs.1.max
  unfold maxLen at hcap
  have HS := Lib.hid hs
  have HSO := Lib.hid hso
  have HB_w : Below w.heap.size w w := Below.refl _ _
  obtain rfl := hd.len
  have hle2 := hd.le
  have hcap2 := hd.max
  unfold maxLen at hcap2
  have HD := Lib.hid hd
  have HEX := Lib.hid (ready_ex l o t)
  obtain ⟨i0, hi, hz0, hz1, hz2⟩ := info_parts info_int
  have HI := Lib.hid hi
  have HZ0 := Lib.hid hz0
  have HZ1 := Lib.hid hz1
  have HZ2 := Lib.hid hz2
  clear hs hd hso hi hz0 hz1 hz2
  go_enter Try.func4, Try.ntmps4
  go_wp2_with fail
  refine (head_any HSO.out _).mono ?_
  rintro e wa ⟨rfl, hb_wa⟩
  have HB_wa : Below w.heap.size w wa := by first | exact after0 HB_w hb_wa | exact after1 HB_w hb_wa | exact after2 HB_w hb_wa | exact after3 HB_w hb_wa | exact after4 HB_w hb_wa | exact after5 HB_w hb_wa
  go_wp2_with fail
  refine (rfew_any _ _ _ l _ (HS.out.below HB_wa)).mono ?_
  rintro e wb ⟨rfl, hb_wb⟩
  have HB_wb : Below w.heap.size w wb := by first | exact after0 HB_wa hb_wb | exact after1 HB_wa hb_wb | exact after2 HB_wa hb_wb | exact after3 HB_wa hb_wb | exact after4 HB_wa hb_wb | exact after5 HB_wa hb_wb
  cases h1 : fewB l
  · clear h1
    go_wp2_with fail
    all_goals try (exfalso; omega)
    go_ret
    exact ⟨rfl, HB_wb⟩
  clear h1
  by_cases h30 : 30 ≤ (o.length : Int)
  ·
    go_wp2_with fail
    all_goals try (exfalso; omega)
    go_ret
    exact ⟨rfl, HB_wb⟩
  have h30' : (o.length : Int) < 30 := by omega
  go_wp2_with fail
  all_goals try (exfalso; omega)
  refine (Permitted_any _ _ _ l _ _ _ o _ (HS.out.below HB_wb) (HD.out.below HB_wb)).mono ?_
  rintro e wc ⟨rfl, hb_wc⟩
  have HB_wc : Below w.heap.size w wc := by first | exact after0 HB_wb hb_wc | exact after1 HB_wb hb_wc | exact after2 HB_wb hb_wc | exact after3 HB_wb hb_wc | exact after4 HB_wb hb_wc | exact after5 HB_wb hb_wc
  by_cases hp : permR l o = (-1, 0)
  case neg =>
    generalize permR l o = p at *
    obtain ⟨x, e⟩ := p
    by_cases he : e = 0
    · subst he
      have hx : (x != -1) = true := bne_iff_ne.2 (fun e => hp (by rw [e]))
      have hx2 : (x == -1) = false := beq_eq_false_iff_ne.2 (fun e => hp (by rw [e]))
      clear hp HEX
      go_wp2_with fail
      all_goals try (exfalso; omega)
      go_ret
      exact ⟨rfl, HB_wc⟩
    · have he1 : (e != 0) = true := bne_iff_ne.2 he
      have he2 : (e == 0) = false := beq_eq_false_iff_ne.2 he
      clear hp HEX he
      go_wp2_with fail
      all_goals try (exfalso; omega)
      go_ret
      exact ⟨rfl, HB_wc⟩
  obtain ⟨i, r, q, e1, e2, e3, HQ⟩ := HEX.out (by omega) hp
  have HE1 := Lib.hid e1
  have HE2 := Lib.hid e2
  have HE3 := Lib.hid e3
  rw [hp]
  clear hp HEX e1 e2 e3
  go_wp2_with fail
  all_goals try (exfalso; omega)
  refine (sorted_any _ _ _ o _ (HD.out.below HB_wc) (by omega)).mono ?_
  rintro e wd ⟨v, rfl, ho, hb_wd⟩
  have HB_wd : Below w.heap.size w wd := by first | exact after0 HB_wc hb_wd | exact after1 HB_wc hb_wd | exact after2 HB_wc hb_wd | exact after3 HB_wc hb_wd | exact after4 HB_wc hb_wd | exact after5 HB_wc hb_wd
  obtain ⟨vo, vc, rfl, hss⟩ := ho.sl cI_len
  have HV := Lib.hid hss
  clear ho hss
  go_wp2_with fail
  have HR := Lib.hid (Ready_any _ _ _ l _ _ _ (srt o) _ (HS.out.below HB_wd) HV.out)
  rw [HE1.out] at HR
  refine (HR.out).mono ?_
  rintro e we ⟨ro, rn, rc, rfl, hr, hb_we⟩
  have HB_we : Below w.heap.size w we := by first | exact after0 HB_wd hb_we | exact after1 HB_wd hb_we | exact after2 HB_wd hb_we | exact after3 HB_wd hb_we | exact after4 HB_wd hb_we | exact after5 HB_wd hb_we
  have HRR := Lib.hid hr
  clear hr HR HV
  have HO0 := Lib.hid (show OwnL (we.alloc (.cells #[] 3)) we.heap.size 3 1 cI (.slice (some ⟨we.heap.size, 0, none⟩) 0 0) [] from OwnL.made (Nat.le_refl _))
  go_wp2_with (at_builtin; refine wpList_append_sl rfl _ _ 23 rfl we.heap.size 3 i0 _ 1 8 Try.underlying23 HI.out HZ0.out HZ1.out HZ2.out rfl (by decide) cI_len cI_one _ [] rfl HO0.out bo o.length capb o rfl (HD.out.below (grew1 HB_we)) (by unfold maxLen; simp; omega) (by simp; omega) (by simp) ?_)
  rintro v_w1 w1 ho hg hgr
  have HO_w1 := Lib.hid ho
  have HB_w1 : Below w.heap.size w w1 := (grew1 HB_we).trans (hg _ HB_we.size)
  have hb_w1 := Lib.hid (show Below we.heap.size we w1 from (grew1 (Below.refl _ _)).trans (hg _ (Nat.le_refl _)))
  have hz_w1 : we.heap.size ≤ w1.heap.size := hb_w1.out.size
  clear ho hg hgr HO0
  have HOX := Lib.hid (HO_w1.out.alloc (.cells #[.int .i64 t] 3))
  have HSX : Hid (Sl (w1.alloc (.cells #[.int .i64 t] 3)) 1 cI (some ⟨w1.heap.size, 0, none⟩) 1 1 [t]) := Sl.one (x := t) cI_len (Box.new w1 (cI t) 3)
  go_wp2_with (at_builtin; refine wpList_append_sl rfl _ _ 23 rfl we.heap.size 3 i0 _ 1 8 Try.underlying23 HI.out HZ0.out HZ1.out HZ2.out rfl (by decide) cI_len cI_one _ (o) rfl HOX.out (some ⟨w1.heap.size, 0, none⟩) 1 1 [t] rfl HSX.out (by unfold maxLen; omega) (by omega) (by simp; omega) ?_)
  rintro v_w2 w2 ho hg hgr
  have HO_w2 := Lib.hid ho
  have HB_w2 : Below w.heap.size w w2 := (grew1 HB_w1).trans (hg _ HB_we.size)
  have hb_w2 := Lib.hid (show Below we.heap.size we w2 from (Below.alloc hb_w1.out hz_w1 _).trans (hg _ (Nat.le_refl _)))
  clear ho hg hgr HOX HSX
  obtain ⟨vo2, vc2, rfl, hss⟩ := HO_w2.out.sl cI_len
  rw [show (o ++ [t]).length = o.length + 1 by simp] at hss ⊢
  have HV2 := Lib.hid hss
  clear hss HO_w2
  go_wp2_with fail
  have HR := Lib.hid (Permitted_any _ _ _ l _ _ _ (o ++ [t]) _ (HS.out.below HB_w2) HV2.out)
  rw [HE2.out] at HR
  refine (HR.out).mono ?_
  rintro e wf ⟨rfl, hb_wf⟩
  have HB_wf : Below w.heap.size w wf := by first | exact after0 HB_w2 hb_wf | exact after1 HB_w2 hb_wf | exact after2 HB_w2 hb_wf | exact after3 HB_w2 hb_wf | exact after4 HB_w2 hb_wf | exact after5 HB_w2 hb_wf
  clear HR HV2
  have HRF := Lib.hid (HRR.out.below (after0 hb_w2.out hb_wf))
  clear HRR hb_w1 hb_w2
  rcases HQ with ⟨rfl, rfl⟩ | ⟨rfl, rfl⟩
  ·
    go_wp2_with fail
    all_goals try (exfalso; omega)
    have HH := Lib.hid (rhas_any _ _ _ r t _ HRF.out)
    rw [HE3.out] at HH
    refine (HH.out).mono ?_
    rintro e wg ⟨rfl, hb_wg⟩
    have HB_wg : Below w.heap.size w wg := by first | exact after0 HB_wf hb_wg | exact after1 HB_wf hb_wg | exact after2 HB_wf hb_wg | exact after3 HB_wf hb_wg | exact after4 HB_wf hb_wg | exact after5 HB_wf hb_wg
    go_wp2_with fail
    all_goals try (exfalso; omega)
    go_ret
    exact ⟨rfl, HB_wg⟩
  · have ho1 : ((o.length : Int) == -1) = false := beq_eq_false_iff_ne.2 (by omega)
    go_wp2_with fail
    all_goals try (exfalso; omega)
    have HH := Lib.hid (rhas_any _ _ _ r t _ HRF.out)
    rw [HE3.out] at HH
    refine (HH.out).mono ?_
    rintro e wg ⟨rfl, hb_wg⟩
    have HB_wg : Below w.heap.size w wg := by first | exact after0 HB_wf hb_wg | exact after1 HB_wf hb_wg | exact after2 HB_wf hb_wg | exact after3 HB_wf hb_wg | exact after4 HB_wf hb_wg | exact after5 HB_wf hb_wg
    go_wp2_with fail
    all_goals try (exfalso; omega)
    go_ret
    exact ⟨rfl, HB_wg⟩
end Go.Proofs.Ytofilkphaelceaa
