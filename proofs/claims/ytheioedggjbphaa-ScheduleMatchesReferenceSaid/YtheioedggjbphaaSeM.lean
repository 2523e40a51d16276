/-
  The law ScheduleMatchesReference.
-/
import Derived.Test.YtheioedggjbphaaSeR
set_option linter.unusedVariables false
namespace Sc
theorem adm_uniq {J : List Jb} {f : Int} {L L' : List Int} {er er' : Int} (h : AdmSp J f L er) (h' : AdmSp J f L' er') : L = L' ∧ er = er' := by
  unfold AdmSp at h h'
  split at h
  · rename_i hv
    rw [if_pos hv] at h'
    obtain ⟨rfl, q, hq, rfl⟩ := h
    obtain ⟨rfl, q', hq', rfl⟩ := h'
    rw [ask_uniq hq hq']
    exact ⟨rfl, rfl⟩
  · rename_i hv
    rw [if_neg hv] at h'
    obtain ⟨rfl, rfl⟩ := h
    obtain ⟨rfl, rfl⟩ := h'
    exact ⟨rfl, rfl⟩
end Sc
namespace Go.Proofs.Ytheioedggjbphaa
open Go Go.RowKit Sc Sk Go.Sort
theorem slN_I {w : World} {ao : Option Addr} {n cap : Nat} {q : List Nat} (h : Sl w 1 cN ao n cap q) : Sl w 1 cI ao n cap (q.map Int.ofNat) :=
  ⟨by rw [List.length_map]; exact h.len, by rw [List.length_map]; exact h.le, h.max, h.none, fun hl => by
    obtain ⟨b, off, e, hb, hr⟩ := h.at_ (fun e => hl (by rw [e]; rfl))
    exact ⟨b, off, e, hb, fun i hi => by
      rw [List.length_map] at hi
      have := hr i hi
      rw [List.getElem_map]
      exact this⟩⟩
section
variable (w : World) {ao bo : Option Addr} {n cap m capb : Nat} {l : List Jb} {k : List Sn} {f x : Int}
theorem RPlan_a (hs : Sl w 4 cJ ao n cap l) : Calls Try.prog 16 #[.slice ao n cap, .int .i64 f] w (SnsK w (planR l f).1 (planR l f).2) := (rplan_any ao n cap l f w hs).mono fun _ _ h => h.K
theorem Late_a (hs : Sl w 4 cJ ao n cap l) (ho : Sl w 3 cS bo m capb k) : Calls Try.prog 18 #[.slice ao n cap, .slice bo m capb] w (IntsK w (lateR l k).1 (lateR l k).2) := (Late_any ao n cap l bo m capb k w hs ho).mono fun _ _ h => h.K
theorem RLate_a (hs : Sl w 4 cJ ao n cap l) (ho : Sl w 3 cS bo m capb k) : Calls Try.prog 19 #[.slice ao n cap, .slice bo m capb] w (IntsK w (lateR l k).1 (lateR l k).2) := (rlate_any ao n cap l bo m capb k w hs ho).mono fun _ _ h => h.K
theorem Done_a (ho : Sl w 3 cS bo m capb k) (hl : k.length ≤ 500) : Calls Try.prog 27 #[.slice bo m capb, .int .i64 x] w (IntsK w (doneR k x).1 (doneR k x).2) := (Done_any bo m capb k x w ho (by omega)).mono fun _ _ h => h.K
theorem RDone_a (ho : Sl w 3 cS bo m capb k) (hl : k.length ≤ 500) : Calls Try.prog 28 #[.slice bo m capb, .int .i64 x] w (IntsK w (doneR k x).1 (doneR k x).2) := (rdone_any bo m capb k x w ho (by omega)).mono fun _ _ h => h.K
end
set_option maxRecDepth 100000 in
set_option maxHeartbeats 16000000 in
theorem match_walk (hso : SortOk) (ao : Option Addr) (n cap : Nat) (l : List Jb) (f : Int) (bo : Option Addr) (m capb : Nat) (k : List Sn) (x : Int) (w : World) (hs : Sl w 4 cJ ao n cap l) (ho : Sl w 3 cS bo m capb k) :
    Calls Try.prog 3 #[.slice ao n cap, .int .i64 f, .slice bo m capb, .int .i64 x] w (Ret w (.bool true)) := by
  obtain rfl := hs.len
  have hle := hs.le
  have hcap := hs.max
  have HCAP := Lib.hid hcap
  have hcap2 := hcap
  unfold maxLen at hcap2
  have HS := Lib.hid hs
  have HSO := Lib.hid hso
  obtain rfl := ho.len
  have hcapb := ho.max
  have hleb := ho.le
  unfold maxLen at hcapb
  have HO := Lib.hid ho
  clear hs hso hcap ho
  have HB_w : Below w.heap.size w w := Below.refl _ _
  go_enter Try.func3, Try.ntmps3
  go_wp2_with fail
  refine (head_any HSO.out _).mono ?_
  rintro e wa ⟨rfl, hb_wa⟩
  have HB_wa : Below w.heap.size w wa := by first | exact after0 HB_w hb_wa | exact after1 HB_w hb_wa | exact after2 HB_w hb_wa | exact after3 HB_w hb_wa | exact after4 HB_w hb_wa | exact after5 HB_w hb_wa
  go_wp2_with fail
  refine (rfew_any ao l.length cap _ hle HCAP.out).mono ?_
  rintro e wb ⟨rfl, hb_wb⟩
  have HB_wb : Below w.heap.size w wb := by first | exact after0 HB_wa hb_wb | exact after1 HB_wa hb_wb | exact after2 HB_wa hb_wb | exact after3 HB_wa hb_wb | exact after4 HB_wa hb_wb | exact after5 HB_wa hb_wb
  by_cases h12 : l.length ≤ 12
  case neg =>
    rw [decide_eq_false h12]
    go_wp2_with fail
    all_goals try (exfalso; omega)
    go_ret
    exact ⟨rfl, HB_wb⟩
  rw [decide_eq_true h12]
  by_cases h5 : 500 < (k.length : Int)
  ·
    go_wp2_with fail
    all_goals try (exfalso; omega)
    go_ret
    exact ⟨rfl, HB_wb⟩
  replace h5 := Int.not_lt.1 h5
  go_wp2_with fail
  all_goals try (exfalso; omega)
  refine (Valid_any ao l.length cap l _ (HS.out.below HB_wb)).mono ?_
  rintro e wc ⟨rfl, hb_wc⟩
  have HB_wc : Below w.heap.size w wc := by first | exact after0 HB_wb hb_wc | exact after1 HB_wb hb_wc | exact after2 HB_wb hb_wc | exact after3 HB_wb hb_wc | exact after4 HB_wb hb_wc | exact after5 HB_wb hb_wc
  go_wp2_with fail
  refine (rvalid_any ao l.length cap l _ (HS.out.below HB_wc)).mono ?_
  rintro e wd ⟨rfl, hb_wd⟩
  have HB_wd : Below w.heap.size w wd := by first | exact after0 HB_wc hb_wd | exact after1 HB_wc hb_wd | exact after2 HB_wc hb_wd | exact after3 HB_wc hb_wd | exact after4 HB_wc hb_wd | exact after5 HB_wc hb_wd
  generalize validJ l = vv at *
  go_wp2_with fail
  refine (Plan_k ao l.length cap l f _ (HS.out.below HB_wd)).mono ?_
  rintro e we ⟨o1, n1, c1, rfl, hl, hb_we⟩
  have HB_we : Below w.heap.size w we := by first | exact after0 HB_wd hb_we | exact after1 HB_wd hb_we | exact after2 HB_wd hb_we | exact after3 HB_wd hb_we | exact after4 HB_wd hb_we | exact after5 HB_wd hb_we
  have H1 := Lib.hid hl
  clear hl
  go_wp2_with fail
  refine (RPlan_a _ (HS.out.below HB_we)).mono ?_
  rintro e wf ⟨o2, n2, c2, rfl, hl, hb_wf⟩
  have HB_wf : Below w.heap.size w wf := by first | exact after0 HB_we hb_wf | exact after1 HB_we hb_wf | exact after2 HB_we hb_wf | exact after3 HB_we hb_wf | exact after4 HB_we hb_wf | exact after5 HB_we hb_wf
  replace H1 := Lib.hid (show Sl wf _ _ _ _ _ _ by first | exact H1.out.below hb_wf | exact (H1.out.below (grew1 (Below.refl _ _))).below hb_wf | exact (H1.out.below (grew2 (Below.refl _ _))).below hb_wf | exact (H1.out.below (grew3 (Below.refl _ _))).below hb_wf)
  have H2 := Lib.hid hl
  clear hl
  generalize (planR l f).2 = pe at *
  go_wp2_with fail
  refine (h_same _ H1.out H2.out).mono ?_
  rintro e wg ⟨rfl, hb_wg⟩
  have HB_wg : Below w.heap.size w wg := by first | exact after0 HB_wf hb_wg | exact after1 HB_wf hb_wg | exact after2 HB_wf hb_wg | exact after3 HB_wf hb_wg | exact after4 HB_wf hb_wg | exact after5 HB_wf hb_wg
  clear H1 H2
  go_wp2_with fail
  refine (Late_a _ (HS.out.below HB_wg) (HO.out.below HB_wg)).mono ?_
  rintro e wh ⟨o3, n3, c3, rfl, hl, hb_wh⟩
  have HB_wh : Below w.heap.size w wh := by first | exact after0 HB_wg hb_wh | exact after1 HB_wg hb_wh | exact after2 HB_wg hb_wh | exact after3 HB_wg hb_wh | exact after4 HB_wg hb_wh | exact after5 HB_wg hb_wh
  have H1 := Lib.hid hl
  clear hl
  go_wp2_with fail
  refine (RLate_a _ (HS.out.below HB_wh) (HO.out.below HB_wh)).mono ?_
  rintro e wi ⟨o4, n4, c4, rfl, hl, hb_wi⟩
  have HB_wi : Below w.heap.size w wi := by first | exact after0 HB_wh hb_wi | exact after1 HB_wh hb_wi | exact after2 HB_wh hb_wi | exact after3 HB_wh hb_wi | exact after4 HB_wh hb_wi | exact after5 HB_wh hb_wi
  replace H1 := Lib.hid (show Sl wi _ _ _ _ _ _ by first | exact H1.out.below hb_wi | exact (H1.out.below (grew1 (Below.refl _ _))).below hb_wi | exact (H1.out.below (grew2 (Below.refl _ _))).below hb_wi | exact (H1.out.below (grew3 (Below.refl _ _))).below hb_wi)
  have H2 := Lib.hid hl
  clear hl
  generalize (lateR l k).2 = le at *
  go_wp2_with fail
  refine (h_ints _ H1.out H2.out).mono ?_
  rintro e wj ⟨rfl, hb_wj⟩
  have HB_wj : Below w.heap.size w wj := by first | exact after0 HB_wi hb_wj | exact after1 HB_wi hb_wj | exact after2 HB_wi hb_wj | exact after3 HB_wi hb_wj | exact after4 HB_wi hb_wj | exact after5 HB_wi hb_wj
  clear H1 H2
  go_wp2_with fail
  refine (Check_any ao l.length cap l bo k.length capb k _ (HS.out.below HB_wj) (HO.out.below HB_wj)).mono ?_
  rintro e wk ⟨rfl, hb_wk⟩
  have HB_wk : Below w.heap.size w wk := by first | exact after0 HB_wj hb_wk | exact after1 HB_wj hb_wk | exact after2 HB_wj hb_wk | exact after3 HB_wj hb_wk | exact after4 HB_wj hb_wk | exact after5 HB_wj hb_wk
  go_wp2_with fail
  refine (rcheck_any ao l.length cap l bo k.length capb k _ (HS.out.below HB_wk) (HO.out.below HB_wk)).mono ?_
  rintro e wl ⟨rfl, hb_wl⟩
  have HB_wl : Below w.heap.size w wl := by first | exact after0 HB_wk hb_wl | exact after1 HB_wk hb_wl | exact after2 HB_wk hb_wl | exact after3 HB_wk hb_wl | exact after4 HB_wk hb_wl | exact after5 HB_wk hb_wl
  generalize (checkR l k).1 = cb at *
  generalize (checkR l k).2 = ce at *
  go_wp2_with fail
  refine (Core_any ao l.length cap l f _ (HS.out.below HB_wl)).mono ?_
  rintro e wm ⟨lo, hi, er, rfl, hc1, hb_wm⟩
  have HB_wm : Below w.heap.size w wm := by first | exact after0 HB_wl hb_wm | exact after1 HB_wl hb_wm | exact after2 HB_wl hb_wm | exact after3 HB_wl hb_wm | exact after4 HB_wl hb_wm | exact after5 HB_wl hb_wm
  have HC1 := Lib.hid hc1
  obtain ⟨C, hC⟩ : ∃ C, wm.heap.size = C := ⟨_, rfl⟩
  obtain ⟨W1, hW1, hb_W1, hZ1, hbc⟩ := boxes1 wm [.int .i64 lo, .int .i64 hi] 37
  rw [hC] at hbc
  have H_c := Lib.hid hbc
  have HB_W1 := after0 HB_wm hb_W1
  clear hc1 hbc hZ1 hb_W1
  go_wp2_with fail
  clear hW1 hC
  refine (rcore_any ao l.length cap l f _ (HS.out.below HB_W1)).mono ?_
  rintro e wn ⟨lo2, hi2, er2, rfl, hc2, hb_wn⟩
  have HB_wn : Below w.heap.size w wn := by first | exact after0 HB_W1 hb_wn | exact after1 HB_W1 hb_wn | exact after2 HB_W1 hb_wn | exact after3 HB_W1 hb_wn | exact after4 HB_W1 hb_wn | exact after5 HB_W1 hb_wn
  try clear q_c_0 q_c_1
  have H_c := Lib.hid (Box.below (by first | exact H_c.out | exact H_c.out.alloc _ | exact (H_c.out.alloc _).alloc _ | exact ((H_c.out.alloc _).alloc _).alloc _) hb_wn)
  obtain ⟨q_c_0, q_c_1⟩ := H_c.out.c2
  obtain ⟨rfl, rfl, rfl⟩ := core_uniq HC1.out hc2
  obtain ⟨D, hD⟩ : ∃ D, wn.heap.size = D := ⟨_, rfl⟩
  obtain ⟨W2, hW2, hb_W2, hZ2, hbd⟩ := boxes1 wn [.int .i64 lo, .int .i64 hi] 37
  rw [hD] at hbd
  have HB_W2 := after0 HB_wn hb_W2
  obtain ⟨d_0, d_1⟩ := hbd.c2
  have H_c2 := Lib.hid (H_c.out.below hb_W2)
  obtain ⟨g_0, g_1⟩ := H_c2.out.c2
  clear hc2 HC1 hZ2 hbd hb_W2 H_c q_c_0 q_c_1
  have hq := eql_span lo hi lo hi
  go_wp2_with fail
  clear hW2 hD hq d_0 d_1 g_0 g_1 H_c2
  refine (Admit_any HSO.out ao l.length cap l f _ (HS.out.below HB_W2) (by omega)).mono ?_
  rintro e wp ⟨v, L, er1, rfl, ho1, hsp1, hb_wp⟩
  have HB_wp : Below w.heap.size w wp := by first | exact after0 HB_W2 hb_wp | exact after1 HB_W2 hb_wp | exact after2 HB_W2 hb_wp | exact after3 HB_W2 hb_wp | exact after4 HB_W2 hb_wp | exact after5 HB_W2 hb_wp
  obtain ⟨oa, ca, rfl, hsa⟩ := ho1.sl cI_len
  have H1 := Lib.hid hsa
  have HSP := Lib.hid hsp1
  clear ho1 hsa hsp1
  go_wp2_with fail
  refine (radmit_any ao l.length cap l f _ (HS.out.below HB_wp) h12).mono ?_
  rintro e wq ⟨L2, er2, hsp2, ob, nb, cb2, rfl, hsb, hb_wq⟩
  have HB_wq : Below w.heap.size w wq := by first | exact after0 HB_wp hb_wq | exact after1 HB_wp hb_wq | exact after2 HB_wp hb_wq | exact after3 HB_wp hb_wq | exact after4 HB_wp hb_wq | exact after5 HB_wp hb_wq
  replace H1 := Lib.hid (show Sl wq _ _ _ _ _ _ by first | exact H1.out.below hb_wq | exact (H1.out.below (grew1 (Below.refl _ _))).below hb_wq | exact (H1.out.below (grew2 (Below.refl _ _))).below hb_wq | exact (H1.out.below (grew3 (Below.refl _ _))).below hb_wq)
  obtain ⟨rfl, rfl⟩ := adm_uniq HSP.out hsp2
  have H2 := Lib.hid (slN_I hsb)
  clear hsp2 HSP hsb
  generalize L2.map Int.ofNat = L at *
  generalize L.length = ll at *
  go_wp2_with fail
  refine (h_ints _ H1.out H2.out).mono ?_
  rintro e wr ⟨rfl, hb_wr⟩
  have HB_wr : Below w.heap.size w wr := by first | exact after0 HB_wq hb_wr | exact after1 HB_wq hb_wr | exact after2 HB_wq hb_wr | exact after3 HB_wq hb_wr | exact after4 HB_wq hb_wr | exact after5 HB_wq hb_wr
  clear H1 H2
  go_wp2_with fail
  refine (Done_a _ (HO.out.below HB_wr) (by omega)).mono ?_
  rintro e ws ⟨o5, n5, c5, rfl, hl, hb_ws⟩
  have HB_ws : Below w.heap.size w ws := by first | exact after0 HB_wr hb_ws | exact after1 HB_wr hb_ws | exact after2 HB_wr hb_ws | exact after3 HB_wr hb_ws | exact after4 HB_wr hb_ws | exact after5 HB_wr hb_ws
  have H1 := Lib.hid hl
  clear hl
  go_wp2_with fail
  refine (RDone_a _ (HO.out.below HB_ws) (by omega)).mono ?_
  rintro e wt ⟨o6, n6, c6, rfl, hl, hb_wt⟩
  have HB_wt : Below w.heap.size w wt := by first | exact after0 HB_ws hb_wt | exact after1 HB_ws hb_wt | exact after2 HB_ws hb_wt | exact after3 HB_ws hb_wt | exact after4 HB_ws hb_wt | exact after5 HB_ws hb_wt
  replace H1 := Lib.hid (show Sl wt _ _ _ _ _ _ by first | exact H1.out.below hb_wt | exact (H1.out.below (grew1 (Below.refl _ _))).below hb_wt | exact (H1.out.below (grew2 (Below.refl _ _))).below hb_wt | exact (H1.out.below (grew3 (Below.refl _ _))).below hb_wt)
  have H2 := Lib.hid hl
  clear hl
  generalize (doneR k x).2 = de at *
  go_wp2_with fail
  refine (h_ints _ H1.out H2.out).mono ?_
  rintro e wu ⟨rfl, hb_wu⟩
  have HB_wu : Below w.heap.size w wu := by first | exact after0 HB_wt hb_wu | exact after1 HB_wt hb_wu | exact after2 HB_wt hb_wu | exact after3 HB_wt hb_wu | exact after4 HB_wt hb_wu | exact after5 HB_wt hb_wu
  clear H1 H2
  go_wp2_with fail
  go_ret
  exact ⟨rfl, HB_wu⟩
end Go.Proofs.Ytheioedggjbphaa
