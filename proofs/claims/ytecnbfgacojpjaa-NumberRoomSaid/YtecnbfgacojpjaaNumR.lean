/-
  The walk of 'NumberRoom'. 
-/
import Derived.Test.YtecnbfgacojpjaaNumQ
namespace Go.Proofs.Ytecnbfgacojpjaa
open Go.RowKit Nb Sk Go.Sort

set_option maxRecDepth 100000 in
set_option maxHeartbeats 4000000 in
theorem room_walk (ao : Option Addr) (m cap : Nat) (l : List Us) (st kd now free other : Int) (w : World) (hs : Sl w 5 cU ao m cap l) :
    Calls Try.prog 10 #[.slice ao m cap, .int .i64 st, .int .i64 kd, .int .i64 now, .int .i64 free, .int .i64 other] w (Ret w (.bool true)) := by
  have HSL := Lib.hid hs
  clear hs
  have HB_w : Below w.heap.size w w := Below.refl _ _
  go_enter Try.func10, Try.ntmps10
  go_wp2_with fail
  refine (head_any _).mono ?_
  rintro e wa ⟨rfl, hb_wa⟩
  have HB_wa : Below w.heap.size w wa := by first | exact after0 HB_w hb_wa | exact after1 HB_w hb_wa | exact after2 HB_w hb_wa | exact after3 HB_w hb_wa | exact after4 HB_w hb_wa | exact after5 HB_w hb_wa
  replace HSL := Lib.hid (show Sl wa _ _ _ _ _ _ by first | exact HSL.out.below hb_wa | exact (HSL.out.below (grew1 (Below.refl _ _))).below hb_wa | exact (HSL.out.below (grew2 (Below.refl _ _))).below hb_wa | exact (HSL.out.below (grew3 (Below.refl _ _))).below hb_wa)
  go_wp2_with fail
  refine (room_any _ _ _ l _ _ _ _ (by first | exact HSL.out | exact HSL.out.below (grew1 (Below.refl _ _)) | exact HSL.out.below (grew2 (Below.refl _ _)) | exact HSL.out.below (grew3 (Below.refl _ _)))).mono ?_
  rintro e wb ⟨rfl, hb_wb⟩
  have HB_wb : Below w.heap.size w wb := by first | exact after0 HB_wa hb_wb | exact after1 HB_wa hb_wb | exact after2 HB_wa hb_wb | exact after3 HB_wa hb_wb | exact after4 HB_wa hb_wb | exact after5 HB_wa hb_wb
  replace HSL := Lib.hid (show Sl wb _ _ _ _ _ _ by first | exact HSL.out.below hb_wb | exact (HSL.out.below (grew1 (Below.refl _ _))).below hb_wb | exact (HSL.out.below (grew2 (Below.refl _ _))).below hb_wb | exact (HSL.out.below (grew3 (Below.refl _ _))).below hb_wb)
  rcases next_room l st kd now with ⟨q, ha, hq, hn, hr⟩ | ⟨ha, hn, hr, h0⟩ | ⟨x, r, ha, hn, hf, hr, h0⟩
  · rw [hr]
    dsimp only
    have hq' : (q == 0) = false := beq_eq_false_iff_ne.2 hq
    go_wp2_with fail
    refine (next_any _ _ _ l _ _ _ _ (by first | exact HSL.out | exact HSL.out.below (grew1 (Below.refl _ _)) | exact HSL.out.below (grew2 (Below.refl _ _)) | exact HSL.out.below (grew3 (Below.refl _ _)))).mono ?_
    rintro e wc ⟨rfl, hb_wc⟩
    have HB_wc : Below w.heap.size w wc := by first | exact after0 HB_wb hb_wc | exact after1 HB_wb hb_wc | exact after2 HB_wb hb_wc | exact after3 HB_wb hb_wc | exact after4 HB_wb hb_wc | exact after5 HB_wb hb_wc
    replace HSL := Lib.hid (show Sl wc _ _ _ _ _ _ by first | exact HSL.out.below hb_wc | exact (HSL.out.below (grew1 (Below.refl _ _))).below hb_wc | exact (HSL.out.below (grew2 (Below.refl _ _))).below hb_wc | exact (HSL.out.below (grew3 (Below.refl _ _))).below hb_wc)
    rw [hn]
    dsimp only [zeroN]
    clear ha hn hr
    go_wp2_with fail
    go_ret
    exact ⟨rfl, grew1 HB_wc⟩
  · rw [hr]
    dsimp only
    go_wp2_with fail
    refine (next_any _ _ _ l _ _ _ _ (by first | exact HSL.out | exact HSL.out.below (grew1 (Below.refl _ _)) | exact HSL.out.below (grew2 (Below.refl _ _)) | exact HSL.out.below (grew3 (Below.refl _ _)))).mono ?_
    rintro e wc ⟨rfl, hb_wc⟩
    have HB_wc : Below w.heap.size w wc := by first | exact after0 HB_wb hb_wc | exact after1 HB_wb hb_wc | exact after2 HB_wb hb_wc | exact after3 HB_wb hb_wc | exact after4 HB_wb hb_wc | exact after5 HB_wb hb_wc
    replace HSL := Lib.hid (show Sl wc _ _ _ _ _ _ by first | exact HSL.out.below hb_wc | exact (HSL.out.below (grew1 (Below.refl _ _))).below hb_wc | exact (HSL.out.below (grew2 (Below.refl _ _))).below hb_wc | exact (HSL.out.below (grew3 (Below.refl _ _))).below hb_wc)
    rw [hn]
    dsimp only [zeroN]
    have HT := Lib.hid (take_cases l st kd now free)
    have HN := Lib.hid hn
    clear ha hn hr h0
    go_wp2_with fail
    refine (take_any _ _ _ l st kd now free _ (by first | exact HSL.out | exact HSL.out.below (grew1 (Below.refl _ _)) | exact HSL.out.below (grew2 (Below.refl _ _)) | exact HSL.out.below (grew3 (Below.refl _ _)))).mono ?_
    rintro e we ⟨ao', n', cap', rfl, hsl', hb⟩
    have HB_we : Below w.heap.size w we := by first | exact after0 HB_wc hb | exact after1 HB_wc hb
    rcases HT.out with ⟨e, ht, he⟩ | ⟨x, _, hx, _⟩
    · rw [ht]
      dsimp only [zeroN]
      have he' : (e == 0) = false := beq_eq_false_iff_ne.2 he
      clear ht hb hsl'
      go_wp2_with fail
      go_ret
      exact ⟨rfl, grew1 HB_we⟩
    · exfalso
      have := HN.out.symm.trans hx
      simp at this
  · have HRO := Lib.hid (rows_iff.1 (asked_zero ha).1)
    have hm := frees_mem HRO.out hf
    obtain ⟨x1, x2, y⟩ := x
    dsimp only at hm
    obtain ⟨rfl, rfl, hy1, hy2, hu⟩ := hm
    obtain ⟨A, hA⟩ : ∃ A : Nat, freeN l x1 x2 now = A := ⟨_, rfl⟩
    have HA := Lib.hid hA
    have HLE := freeN_le l x1 x2 now
    rw [hA] at hr h0 HLE
    have h0' : (0 : Int) < (A : Int) := by omega
    have h9' : (A : Int) ≤ 99 := by omega
    have h00 : ((A : Int) == 0) = false := beq_eq_false_iff_ne.2 (by omega)
    rw [hr]
    dsimp only
    go_wp2_with fail
    refine (next_any _ _ _ l _ _ _ _ (by first | exact HSL.out | exact HSL.out.below (grew1 (Below.refl _ _)) | exact HSL.out.below (grew2 (Below.refl _ _)) | exact HSL.out.below (grew3 (Below.refl _ _)))).mono ?_
    rintro e wc ⟨rfl, hb_wc⟩
    have HB_wc : Below w.heap.size w wc := by first | exact after0 HB_wb hb_wc | exact after1 HB_wb hb_wc | exact after2 HB_wb hb_wc | exact after3 HB_wb hb_wc | exact after4 HB_wb hb_wc | exact after5 HB_wb hb_wc
    replace HSL := Lib.hid (show Sl wc _ _ _ _ _ _ by first | exact HSL.out.below hb_wc | exact (HSL.out.below (grew1 (Below.refl _ _))).below hb_wc | exact (HSL.out.below (grew2 (Below.refl _ _))).below hb_wc | exact (HSL.out.below (grew3 (Below.refl _ _))).below hb_wc)
    rw [hn]
    dsimp only
    have HT := Lib.hid (take_cases l x1 x2 now free)
    have HN := Lib.hid hn
    have HU := Lib.hid hu
    have HAS := Lib.hid ha
    have hr2 := Lib.hid hr
    clear ha hn hr hA hu hf
    go_wp2_with fail
    refine (take_any _ _ _ l x1 x2 now free _ (by first | exact HSL.out | exact HSL.out.below (grew1 (Below.refl _ _)) | exact HSL.out.below (grew2 (Below.refl _ _)) | exact HSL.out.below (grew3 (Below.refl _ _)))).mono ?_
    rintro e we ⟨ao', n', cap', rfl, hsl', hb⟩
    have HB_we : Below w.heap.size w we := by first | exact after0 HB_wc hb | exact after1 HB_wc hb
    rcases HT.out with ⟨e, ht, he⟩ | ⟨x, ht, hx, _, hnf, htf, hlen, _⟩
    · rw [ht]
      dsimp only [zeroN]
      have he' : (e == 0) = false := beq_eq_false_iff_ne.2 he
      clear ht hb hsl'
      go_wp2_with fail
      go_ret
      exact ⟨rfl, grew1 HB_we⟩
    · obtain rfl : x = ⟨x1, x2, y⟩ := (Prod.mk.inj (hx.symm.trans HN.out)).1
      obtain ⟨g1, g2, g3, g4⟩ := asked_zero HAS.out
      have g2' := okN_iff.1 g2
      dsimp only at g2'
      have HMR := Lib.hid (more_rows HRO.out hlen (okN_iff.2 ⟨g2'.1, g2'.2.1, g2'.2.2.1, g2'.2.2.2.1, hy1, hy2⟩) g3 hnf htf g4 HU.out)
      have HMF := Lib.hid (more_freeN (l := l) (st := x1) (kd := x2) ⟨hy1, hy2⟩ HU.out hnf)
      have HMA := Lib.hid (fun k2 => more_asked HAS.out HMR.out k2)
      have HMO := Lib.hid (fun k2 (h : k2 ≠ x2) => more_other (l := l) (st := x1) (kd := x2) (now := now) (free := free) (y := y) h)
      have hE : (l ++ [(⟨⟨x1, x2, y⟩, now, free⟩ : Us)]) = l ++ [⟨⟨x1, x2, y⟩, now, free⟩] := rfl
      rw [ht] at hsl' ⊢
      dsimp only at hsl' ⊢
      generalize hL2 : (l ++ [(⟨⟨x1, x2, y⟩, now, free⟩ : Us)]) = l2 at *
      have HL2 := Lib.hid hL2
      have HR1 := Lib.hid (show room l2 x1 x2 now = ((A : Int) - 1, 0) by
        rw [room_freeN, if_pos (by rw [HMA.out]; exact HAS.out)]
        have h1 := HMF.out
        have h2 := HA.out
        congr 1
        omega)
      have HRO2 := Lib.hid (fun (h : other ≠ x2) => show room l2 x1 other now = room l x1 other now by
        rw [room_freeN, room_freeN, HMA.out, HMO.out _ h])
      have HR0 := Lib.hid hr2.out
      have HSL2 := Lib.hid hsl'
      clear hsl' hL2 hE ht hx g1 g2 g3 g4 g2' hy1 hy2 hnf htf hlen HMR HMF HMA HMO
      replace HSL := Lib.hid (show Sl we 5 cU ao m cap l by first | exact HSL.out.below hb | exact (HSL.out.below (grew1 (Below.refl _ _))).below hb)
      clear hb
      go_wp2_with fail
      refine (room_any _ _ _ l2 _ _ _ _ (by first | exact HSL2.out | exact HSL2.out.below (grew1 (Below.refl _ _)) | exact HSL2.out.below (grew2 (Below.refl _ _)) | exact HSL2.out.below (grew3 (Below.refl _ _)))).mono ?_
      rintro e wf ⟨rfl, hb_wf⟩
      have HB_wf : Below w.heap.size w wf := by first | exact after0 HB_we hb_wf | exact after1 HB_we hb_wf | exact after2 HB_we hb_wf | exact after3 HB_we hb_wf | exact after4 HB_we hb_wf | exact after5 HB_we hb_wf
      replace HSL := Lib.hid (show Sl wf _ _ _ _ _ _ by first | exact HSL.out.below hb_wf | exact (HSL.out.below (grew1 (Below.refl _ _))).below hb_wf | exact (HSL.out.below (grew2 (Below.refl _ _))).below hb_wf | exact (HSL.out.below (grew3 (Below.refl _ _))).below hb_wf)
      replace HSL2 := Lib.hid (show Sl wf _ _ _ _ _ _ by first | exact HSL2.out.below hb_wf | exact (HSL2.out.below (grew1 (Below.refl _ _))).below hb_wf | exact (HSL2.out.below (grew2 (Below.refl _ _))).below hb_wf | exact (HSL2.out.below (grew3 (Below.refl _ _))).below hb_wf)
      rw [HR1.out]
      dsimp only
      go_wp2_with fail
      by_cases hok : other = x2
      · subst hok
        refine (room_any _ _ _ l _ _ _ _ (by first | exact HSL.out | exact HSL.out.below (grew1 (Below.refl _ _)) | exact HSL.out.below (grew2 (Below.refl _ _)) | exact HSL.out.below (grew3 (Below.refl _ _)))).mono ?_
        rintro e wg ⟨rfl, hb_wg⟩
        have HB_wg : Below w.heap.size w wg := by first | exact after0 HB_wf hb_wg | exact after1 HB_wf hb_wg | exact after2 HB_wf hb_wg | exact after3 HB_wf hb_wg | exact after4 HB_wf hb_wg | exact after5 HB_wf hb_wg
        replace HSL := Lib.hid (show Sl wg _ _ _ _ _ _ by first | exact HSL.out.below hb_wg | exact (HSL.out.below (grew1 (Below.refl _ _))).below hb_wg | exact (HSL.out.below (grew2 (Below.refl _ _))).below hb_wg | exact (HSL.out.below (grew3 (Below.refl _ _))).below hb_wg)
        replace HSL2 := Lib.hid (show Sl wg _ _ _ _ _ _ by first | exact HSL2.out.below hb_wg | exact (HSL2.out.below (grew1 (Below.refl _ _))).below hb_wg | exact (HSL2.out.below (grew2 (Below.refl _ _))).below hb_wg | exact (HSL2.out.below (grew3 (Below.refl _ _))).below hb_wg)
        rw [HR0.out]
        dsimp only
        go_wp2_with fail
        refine (room_any _ _ _ l2 _ _ _ _ (by first | exact HSL2.out | exact HSL2.out.below (grew1 (Below.refl _ _)) | exact HSL2.out.below (grew2 (Below.refl _ _)) | exact HSL2.out.below (grew3 (Below.refl _ _)))).mono ?_
        rintro e wh ⟨rfl, hb_wh⟩
        have HB_wh : Below w.heap.size w wh := by first | exact after0 HB_wg hb_wh | exact after1 HB_wg hb_wh | exact after2 HB_wg hb_wh | exact after3 HB_wg hb_wh | exact after4 HB_wg hb_wh | exact after5 HB_wg hb_wh
        replace HSL := Lib.hid (show Sl wh _ _ _ _ _ _ by first | exact HSL.out.below hb_wh | exact (HSL.out.below (grew1 (Below.refl _ _))).below hb_wh | exact (HSL.out.below (grew2 (Below.refl _ _))).below hb_wh | exact (HSL.out.below (grew3 (Below.refl _ _))).below hb_wh)
        replace HSL2 := Lib.hid (show Sl wh _ _ _ _ _ _ by first | exact HSL2.out.below hb_wh | exact (HSL2.out.below (grew1 (Below.refl _ _))).below hb_wh | exact (HSL2.out.below (grew2 (Below.refl _ _))).below hb_wh | exact (HSL2.out.below (grew3 (Below.refl _ _))).below hb_wh)
        rw [HR1.out]
        dsimp only
        go_wp2_with fail
        go_ret
        exact ⟨rfl, HB_wh⟩
      · have hok' : (other == x2) = false := beq_eq_false_iff_ne.2 hok
        refine (room_any _ _ _ l _ _ _ _ (by first | exact HSL.out | exact HSL.out.below (grew1 (Below.refl _ _)) | exact HSL.out.below (grew2 (Below.refl _ _)) | exact HSL.out.below (grew3 (Below.refl _ _)))).mono ?_
        rintro e wg ⟨rfl, hb_wg⟩
        have HB_wg : Below w.heap.size w wg := by first | exact after0 HB_wf hb_wg | exact after1 HB_wf hb_wg | exact after2 HB_wf hb_wg | exact after3 HB_wf hb_wg | exact after4 HB_wf hb_wg | exact after5 HB_wf hb_wg
        replace HSL := Lib.hid (show Sl wg _ _ _ _ _ _ by first | exact HSL.out.below hb_wg | exact (HSL.out.below (grew1 (Below.refl _ _))).below hb_wg | exact (HSL.out.below (grew2 (Below.refl _ _))).below hb_wg | exact (HSL.out.below (grew3 (Below.refl _ _))).below hb_wg)
        replace HSL2 := Lib.hid (show Sl wg _ _ _ _ _ _ by first | exact HSL2.out.below hb_wg | exact (HSL2.out.below (grew1 (Below.refl _ _))).below hb_wg | exact (HSL2.out.below (grew2 (Below.refl _ _))).below hb_wg | exact (HSL2.out.below (grew3 (Below.refl _ _))).below hb_wg)
        have HZ := Lib.hid (HRO2.out hok)
        generalize room l x1 other now = z at *
        obtain ⟨z1, z2⟩ := z
        dsimp only
        go_wp2_with fail
        refine (room_any _ _ _ l2 _ _ _ _ (by first | exact HSL2.out | exact HSL2.out.below (grew1 (Below.refl _ _)) | exact HSL2.out.below (grew2 (Below.refl _ _)) | exact HSL2.out.below (grew3 (Below.refl _ _)))).mono ?_
        rintro e wh ⟨rfl, hb_wh⟩
        have HB_wh : Below w.heap.size w wh := by first | exact after0 HB_wg hb_wh | exact after1 HB_wg hb_wh | exact after2 HB_wg hb_wh | exact after3 HB_wg hb_wh | exact after4 HB_wg hb_wh | exact after5 HB_wg hb_wh
        replace HSL := Lib.hid (show Sl wh _ _ _ _ _ _ by first | exact HSL.out.below hb_wh | exact (HSL.out.below (grew1 (Below.refl _ _))).below hb_wh | exact (HSL.out.below (grew2 (Below.refl _ _))).below hb_wh | exact (HSL.out.below (grew3 (Below.refl _ _))).below hb_wh)
        replace HSL2 := Lib.hid (show Sl wh _ _ _ _ _ _ by first | exact HSL2.out.below hb_wh | exact (HSL2.out.below (grew1 (Below.refl _ _))).below hb_wh | exact (HSL2.out.below (grew2 (Below.refl _ _))).below hb_wh | exact (HSL2.out.below (grew3 (Below.refl _ _))).below hb_wh)
        rw [HZ.out]
        dsimp only
        go_wp2_with fail
        go_ret
        exact ⟨rfl, HB_wh⟩
end Go.Proofs.Ytecnbfgacojpjaa
