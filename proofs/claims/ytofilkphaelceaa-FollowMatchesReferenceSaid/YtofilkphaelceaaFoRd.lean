/-
  The reference functions of the layer 'follow', walked: Ready, Order, Permitted.
-/
import Derived.Test.YtofilkphaelceaaFoRc
set_option linter.unusedVariables false
namespace Go.Proofs.Ytofilkphaelceaa
open Go Go.RowKit Fo Sk Go.Sort


set_option maxRecDepth 100000 in
set_option maxHeartbeats 4000000 in
theorem rReady_any (ao : Option Addr) (n cap : Nat) (l : List St) (bo : Option Addr) (m capb : Nat) (d : List Int) (w : World) (hs : SlS w ao n cap l) (hd : Sl w 1 cI bo m capb d) :
    Calls Try.prog 16 #[.slice ao n cap, .slice bo m capb] w (IntsE w (readyR l d)) := by
  obtain rfl := hs.1.len
  obtain rfl := hd.len
  have hcap := hs.1.max
  have hle := hs.1.le
  have hcapb := hd.max
  have hleb := hd.le
  unfold maxLen at hcap hcapb
  have HS := Lib.hid hs
  have HD := Lib.hid hd
  have HB_w : Below w.heap.size w w := Below.refl _ _
  have HBAD := Lib.hid (@readyR_bad l d)
  have HOK := Lib.hid (@readyR_ok l d)
  clear hs hd
  go_enter Try.func16, Try.ntmps16
  go_wp2_with fail
  refine (rvalid_any _ _ _ l _ HS.out).mono ?_
  rintro e wa ⟨rfl, hb_wa⟩
  have HB_wa : Below w.heap.size w wa := by first | exact after0 HB_w hb_wa | exact after1 HB_w hb_wa | exact after2 HB_w hb_wa | exact after3 HB_w hb_wa | exact after4 HB_w hb_wa | exact after5 HB_w hb_wa
  cases h1 : valid l
  · have HP := Lib.hid (HBAD.out (.inl h1))
    clear h1
    go_wp2_with fail
    refine (rdone_any _ _ _ d _ (HD.out.below HB_wa)).mono ?_
    rintro e wb ⟨rfl, hb_wb⟩
    have HB_wb : Below w.heap.size w wb := by first | exact after0 HB_wa hb_wb | exact after1 HB_wa hb_wb | exact after2 HB_wa hb_wb | exact after3 HB_wa hb_wb | exact after4 HB_wa hb_wb | exact after5 HB_wa hb_wb
    cases isDone d
    all_goals
      go_wp2_with fail
      go_ret2
      exact ⟨none, 0, 0, by rw [HP.out]; rfl, by rw [HP.out]; exact Sl.nil, HB_wb⟩
  go_wp2_with fail
  refine (rdone_any _ _ _ d _ (HD.out.below HB_wa)).mono ?_
  rintro e wb ⟨rfl, hb_wb⟩
  have HB_wb : Below w.heap.size w wb := by first | exact after0 HB_wa hb_wb | exact after1 HB_wa hb_wb | exact after2 HB_wa hb_wb | exact after3 HB_wa hb_wb | exact after4 HB_wa hb_wb | exact after5 HB_wa hb_wb
  cases h2 : isDone d
  · have HP := Lib.hid (HBAD.out (.inr h2))
    clear h1 h2
    go_wp2_with fail
    go_ret2
    exact ⟨none, 0, 0, by rw [HP.out]; rfl, by rw [HP.out]; exact Sl.nil, HB_wb⟩
  have hl200 := (vok h1).len
  have hd200 := (isDone_iff.1 h2).1
  have HP := Lib.hid (HOK.out h1 h2)
  clear h1 h2 HBAD HOK
  go_wp2_with fail
  refine (rready_any _ _ _ l _ _ _ d _ (HS.out.below HB_wb) (HD.out.below HB_wb) hl200).mono ?_
  rintro e wc ⟨v, rfl, ho, hb_wc⟩
  have HB_wc : Below w.heap.size w wc := by first | exact after0 HB_wb hb_wc | exact after1 HB_wb hb_wc | exact after2 HB_wb hb_wc | exact after3 HB_wb hb_wc | exact after4 HB_wb hb_wc | exact after5 HB_wb hb_wc
  obtain ⟨so, sc, rfl, hsc⟩ := ho.sl cI_len
  have HSC := Lib.hid hsc
  clear ho hsc
  go_wp2_with fail
  go_ret2
  exact ⟨_, _, _, by rw [HP.out]; rfl, by rw [HP.out]; exact HSC.out, HB_wc⟩

set_option maxRecDepth 100000 in
set_option maxHeartbeats 4000000 in
theorem rorder_any (ao : Option Addr) (n cap : Nat) (l : List St) (bo : Option Addr) (m capb : Nat) (d : List Int) (w : World) (hs : SlS w ao n cap l) (hd : Sl w 1 cI bo m capb d) :
    Calls Try.prog 19 #[.slice ao n cap, .slice bo m capb] w (IntsE w (orderR l d)) := by
  obtain rfl := hs.1.len
  obtain rfl := hd.len
  have hcap := hs.1.max
  have hle := hs.1.le
  have hcapb := hd.max
  have hleb := hd.le
  unfold maxLen at hcap hcapb
  have HS := Lib.hid hs
  have HD := Lib.hid hd
  have HB_w : Below w.heap.size w w := Below.refl _ _
  have HBAD := Lib.hid (@orderR_bad l d)
  have HOK := Lib.hid (@orderR_ok l d)
  clear hs hd
  obtain ⟨i0, hi, hz0, hz1, hz2⟩ := info_parts info_int
  have HI := Lib.hid hi
  have HZ0 := Lib.hid hz0
  have HZ1 := Lib.hid hz1
  have HZ2 := Lib.hid hz2
  clear hi hz0 hz1 hz2
  go_enter Try.func19, Try.ntmps19
  go_wp2_with fail
  refine (rvalid_any _ _ _ l _ HS.out).mono ?_
  rintro e wa ⟨rfl, hb_wa⟩
  have HB_wa : Below w.heap.size w wa := by first | exact after0 HB_w hb_wa | exact after1 HB_w hb_wa | exact after2 HB_w hb_wa | exact after3 HB_w hb_wa | exact after4 HB_w hb_wa | exact after5 HB_w hb_wa
  cases h1 : valid l
  · have HP := Lib.hid (HBAD.out (.inl h1))
    clear h1
    go_wp2_with fail
    refine (rdone_any _ _ _ d _ (HD.out.below HB_wa)).mono ?_
    rintro e wb ⟨rfl, hb_wb⟩
    have HB_wb : Below w.heap.size w wb := by first | exact after0 HB_wa hb_wb | exact after1 HB_wa hb_wb | exact after2 HB_wa hb_wb | exact after3 HB_wa hb_wb | exact after4 HB_wa hb_wb | exact after5 HB_wa hb_wb
    cases isDone d
    all_goals
      go_wp2_with fail
      go_ret2
      exact ⟨none, 0, 0, by rw [HP.out]; rfl, by rw [HP.out]; exact Sl.nil, HB_wb⟩
  go_wp2_with fail
  refine (rdone_any _ _ _ d _ (HD.out.below HB_wa)).mono ?_
  rintro e wb ⟨rfl, hb_wb⟩
  have HB_wb : Below w.heap.size w wb := by first | exact after0 HB_wa hb_wb | exact after1 HB_wa hb_wb | exact after2 HB_wa hb_wb | exact after3 HB_wa hb_wb | exact after4 HB_wa hb_wb | exact after5 HB_wa hb_wb
  cases h2 : isDone d
  · have HP := Lib.hid (HBAD.out (.inr h2))
    clear h1 h2
    go_wp2_with fail
    go_ret2
    exact ⟨none, 0, 0, by rw [HP.out]; rfl, by rw [HP.out]; exact Sl.nil, HB_wb⟩
  have hl200 := (vok h1).len
  have hd200 := (isDone_iff.1 h2).1
  have HP := Lib.hid (HOK.out h1 h2)
  have HV := Lib.hid (vok h1)
  clear h1 h2 HBAD HOK
  have hNle := orderF_le l d
  have HRD := Lib.hid (fun (i : Nat) (h : i < (orderF l d).length) => @order_ready l d HV.out (d ++ (orderF l d).take i) i h (fun x => List.mem_append))
  have HRE := Lib.hid (@order_end l d (d ++ orderF l d) (fun x => List.mem_append))
  generalize orderF l d = N at *
  go_wp2_with fail
  refine (rcopied_any _ _ _ d _ (HD.out.below HB_wb) hd200).mono ?_
  rintro e wc ⟨v, rfl, ho, hb_wc⟩
  have HB_wc : Below w.heap.size w wc := by first | exact after0 HB_wb hb_wc | exact after1 HB_wb hb_wc | exact after2 HB_wb hb_wc | exact after3 HB_wb hb_wc | exact after4 HB_wb hb_wc | exact after5 HB_wb hb_wc
  have HO0 := Lib.hid (ho.mono (base' := w.heap.size) HB_wb.size)
  clear ho
  go_wp2_with fail
  go_loopw [8, 9, 10] (fun al o i wr => ∃ k : Nat, k ≤ l.length ∧ i = .int .i64 k ∧ Below w.heap.size w wr ∧ Hid (OwnL wr w.heap.size 3 1 cI al (d ++ N.take k)) ∧ Hid (OwnL wr w.heap.size 3 1 cI o (N.take k)) ∧ Hid (Apart o al)) (fun _ _ i _ => l.length - (intOf i).toNat)
  case atStart => exact ⟨0, Nat.zero_le _, rfl, HB_wc, by rw [List.take_zero, List.append_nil]; exact HO0.out, OwnL.nil, apart_nil _⟩
  case round =>
    clear HO0 HB_wc
    obtain ⟨k, hk, rfl, HB_wr, HA, HO, HAP⟩ := hrel
    by_cases hlt : k < l.length
    · obtain ⟨aa, ca, rfl, hsa⟩ := HA.out.sl cI_len
      have hAl : (d ++ N.take k).length ≤ 400 := by rw [List.length_append, List.length_take]; omega
      have hTl : (N.take k).length ≤ 200 := by rw [List.length_take]; omega
      by_cases hkN : k < N.length
      · obtain ⟨r, hr⟩ := HRD.out k hkN
        have HST := Lib.hid (show N.take (k + 1) = N.take k ++ [N[k]] by rw [List.take_add_one, List.getElem?_eq_getElem hkN, Option.toList_some])
        have HX := Lib.hid (rready_any _ _ _ l _ _ _ (d ++ N.take k) wr (HS.out.below HB_wr) hsa hl200)
        have HSA := Lib.hid (show d ++ N.take (k + 1) = (d ++ N.take k) ++ [N[k]] by rw [HST.out, List.append_assoc])
        rw [hr] at HX
        clear hr hsa
        generalize d ++ N.take k = A at *
        generalize hT : N.take k = T at *
        generalize N[k] = x at *
        clear hT
        go_wp2_with fail
        refine (HX.out).mono ?_
        rintro e wc ⟨v, rfl, ho, hb_wc⟩
        have HB_wc : Below w.heap.size w wc := by first | exact after0 HB_wr hb_wc | exact after1 HB_wr hb_wc | exact after2 HB_wr hb_wc | exact after3 HB_wr hb_wc | exact after4 HB_wr hb_wc | exact after5 HB_wr hb_wc
        have hn0 : 0 < (x :: r).length := Nat.succ_pos _
        obtain ⟨b, sc, rfl, hbg, hbl⟩ := OwnL.form ho hn0
        have e_0 := OwnL.cellI (j := 0) (x := x) ho rfl
        obtain ⟨_, _, hq1, hsc⟩ := ho.sl cI_len
        simp only [Value.slice.injEq] at hq1
        obtain ⟨rfl, _, rfl⟩ := hq1
        have hscl := hsc.le
        have hscm := hsc.max
        unfold maxLen at hscm
        have HN := Lib.hid (ho.alloc (.cells #[.int .i64 x] 3))
        have hA1 := Lib.hid (HA.out.below hb_wc)
        have hO1 := Lib.hid (HO.out.below hb_wc)
        have HFR := Lib.hid (show Apart (.slice (some ⟨b, 0, none⟩) (x :: r).length sc) u9 from fun k h1 h2 => by
          simp [Value.ownBlock] at h1
          have := (World.ownsRow.lt HO.out k h2).2
          omega)
        clear ho hsc HX HA HO
        generalize hnr : (x :: r).length = nr at *
        have hn0i : 0 < (nr : Int) := by omega
        have HOX := Lib.hid (hO1.out.alloc (.cells #[.int .i64 x] 3))
        have HAX := Lib.hid (hA1.out.alloc (.cells #[.int .i64 x] 3))
        have HSX : Hid (Sl (wc.alloc (.cells #[.int .i64 x] 3)) 1 cI (some ⟨wc.heap.size, 0, none⟩) 1 1 [x]) := Sl.one (x := x) cI_len (Box.new wc (cI x) 3)
        have hsz : w.heap.size ≤ (wc.alloc (.cells #[.int .i64 x] 3)).heap.size := by have := HB_wc.size; simp; omega
        have HNR := Lib.hid hnr
        clear hnr
        go_wp2_with (at_builtin; refine wpList_append_lie rfl _ _ 23 rfl w.heap.size 3 i0 _ 1 8 Try.underlying23 HI.out HZ0.out HZ1.out HZ2.out rfl (by decide) cI_len cI_one _ T rfl HOX.out (some ⟨wc.heap.size, 0, none⟩) 1 1 [x] rfl HSX.out (by decide) (by unfold maxLen; omega) (by omega) hsz ?_)
        rintro g cap6 w6 ho6 hg6 hgr6 hat6 hgl6
        have HB_6 : Below w.heap.size w w6 := (grew1 HB_wc).trans (hg6 _ (Nat.le_refl _))
        have HO6 := Lib.hid ho6
        have HA6 := Lib.hid (OwnL.far HAX.out hgr6 HAP.out.symm)
        have HAP6 := Lib.hid (Apart.lie (n := T.length + 1) (cap := cap6) HAP.out (fun k e => (World.ownsRow.lt HAX.out k e).2) (by simpa using hat6))
        have hn6 := OwnL.far HN.out hgr6 HFR.out
        rw [← HNR.out] at hn6
        have e_0 := OwnL.cellI (j := 0) (x := x) hn6 rfl
        clear ho6 hg6 hgr6 hat6 hsz HSX HAX HOX hA1 hO1 hn6 HN HFR HAP
        have HAY := Lib.hid (HA6.out.alloc (.cells #[.int .i64 x] 3))
        have HOY := Lib.hid (HO6.out.alloc (.cells #[.int .i64 x] 3))
        have HSY : Hid (Sl (w6.alloc (.cells #[.int .i64 x] 3)) 1 cI (some ⟨w6.heap.size, 0, none⟩) 1 1 [x]) := Sl.one (x := x) cI_len (Box.new w6 (cI x) 3)
        have hsz : w.heap.size ≤ (w6.alloc (.cells #[.int .i64 x] 3)).heap.size := by have := HB_6.size; simp; omega
        go_wp2_with (at_builtin; refine wpList_append_lie rfl _ _ 23 rfl w.heap.size 3 i0 _ 1 8 Try.underlying23 HI.out HZ0.out HZ1.out HZ2.out rfl (by decide) cI_len cI_one _ A rfl HAY.out (some ⟨w6.heap.size, 0, none⟩) 1 1 [x] rfl HSY.out (by decide) (by unfold maxLen; omega) (by omega) hsz ?_)
        rintro g7 cap7 w7 ho7 hg7 hgr7 hat7 hgl7
        have HB_7 : Below w.heap.size w w7 := (grew1 HB_6).trans (hg7 _ (Nat.le_refl _))
        have HA7 := Lib.hid ho7
        have HO7 := Lib.hid (OwnL.far HOY.out hgr7 HAP6.out)
        have HAP7 := Lib.hid (Apart.lie (n := A.length + 1) (cap := cap7) HAP6.out.symm (fun k e => (World.ownsRow.lt HOY.out k e).2) (by simpa using hat7)).symm
        clear ho7 hg7 hgr7 hat7 hsz HSY HAY HOY HA6 HO6 HAP6 e_0
        go_wp2_with fail
        go_roundw
        case rel => exact ⟨k + 1, hlt, by go_num, HB_7, by rw [HSA.out]; exact HA7.out, by rw [HST.out]; exact HO7.out, HAP7.out⟩
        case measure => simp [intOf] <;> omega
      · have hTN : N.take k = N := List.take_of_length_le (by omega)
        have hTN2 : N.take (k + 1) = N := List.take_of_length_le (by omega)
        have HX := Lib.hid (rready_any _ _ _ l _ _ _ (d ++ N.take k) wr (HS.out.below HB_wr) hsa hl200)
        have HRQ := Lib.hid (show readyF l (d ++ N.take k) = [] by rw [hTN]; exact HRE.out)
        have HSA := Lib.hid (show d ++ N.take (k + 1) = d ++ N.take k by rw [hTN, hTN2])
        have HST := Lib.hid (show N.take (k + 1) = N.take k by rw [hTN, hTN2])
        rw [HRQ.out] at HX
        clear hsa hTN hTN2 HRQ HRD
        generalize d ++ N.take k = A at *
        go_wp2_with fail
        refine (HX.out).mono ?_
        rintro e wc ⟨v, rfl, ho, hb_wc⟩
        have HB_wc : Below w.heap.size w wc := by first | exact after0 HB_wr hb_wc | exact after1 HB_wr hb_wc | exact after2 HB_wr hb_wc | exact after3 HB_wr hb_wc | exact after4 HB_wr hb_wc | exact after5 HB_wr hb_wc
        obtain ⟨so, sc, rfl, hsc⟩ := ho.sl cI_len
        have hA1 := Lib.hid (HA.out.below hb_wc)
        have hO1 := Lib.hid (HO.out.below hb_wc)
        clear ho hsc HX HA HO
        go_wp2_with fail
        go_roundw
        case rel => exact ⟨k + 1, hlt, by go_num, HB_wc, by rw [HSA.out]; exact hA1.out, by rw [HST.out]; exact hO1.out, HAP.out⟩
        case measure => simp [intOf] <;> omega
    · obtain rfl : k = l.length := by omega
      rw [List.take_of_length_le hNle] at HO
      obtain ⟨ao2, co2, rfl, hso⟩ := HO.out.sl cI_len
      have HSO2 := Lib.hid hso
      clear hso HA HAP
      go_wp2_with fail
      go_ret2
      exact ⟨_, _, _, by rw [HP.out]; rfl, by rw [HP.out]; exact HSO2.out, HB_wr⟩
end Go.Proofs.Ytofilkphaelceaa
