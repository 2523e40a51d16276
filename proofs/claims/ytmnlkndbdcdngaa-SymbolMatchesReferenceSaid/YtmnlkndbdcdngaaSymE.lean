/-
  Walks of the layer 'symbol': Find, Translate.
-/
import Derived.Test.YtmnlkndbdcdngaaSymB
import Derived.Test.YtmnlkndbdcdngaaSymD
namespace Go.Proofs.Ytmnlkndbdcdngaa
open Go.RowKit Sb Sk Go.Sort
set_option linter.unusedVariables false

theorem ret_pair {k k' : IntKind} {a b : Int} {p : Int × Int} (h : p = (a, b)) : Ending.returned (.tuple #[.int k a, .int k' b]) = .returned (.tuple #[.int k p.1, .int k' p.2]) := by rw [h]
theorem findF_bad {of : Int} {ms : List Mk} {s : Int} (h : okB of ms = false ∨ okS s = false) : findF of ms s = (zeroM, 1) := by
  unfold findF; rw [if_neg]
  rcases h with h | h <;> simp [h]
theorem findF_ok {of : Int} {ms : List Mk} {s : Int} (h : okB of ms = true) (h2 : okS s = true) : findF of ms s = match lookM ms s with | some m => (m, 0) | none => (zeroM, 11) := by
  unfold findF; rw [if_pos (by simp [h, h2])]; rfl
theorem translate_bad {oa ob : Int} {a b : List Mk} {s : Int} (h : (okB oa a && okB ob b && okS s) = false) : translate oa a ob b s = (0, 1) := by
  unfold translate; rw [if_neg (by rw [h]; simp)]
theorem translate_ok {oa ob : Int} {a b : List Mk} {s : Int} (h : (okB oa a && okB ob b && okS s) = true) : translate oa a ob b s = match lookM a s with
    | some m => if found (trans b m) then ((trans b m).sy, 0) else (0, 4)
    | none => (0, 11) := by
  unfold translate; rw [if_pos h]; rfl


set_option maxRecDepth 100000 in
set_option maxHeartbeats 1000000 in
theorem Find_any (of : Int) (ao : Option Addr) (n cap : Nat) (ms : List Mk) (s : Int) (w : World) (hs : Sl w 3 cM ao n cap ms) :
    Calls Try.prog 14 #[.agg #[.int .i64 of, .slice ao n cap], .int .i64 s] w (Ret w (.tuple #[eM (findF of ms s).1, .int .i64 (findF of ms s).2])) := by
  obtain ⟨W0, hW0, HB_W0, hZ, hn, hr⟩ := boxes2 w [.int .i64 of, .slice ao n cap] [.int .i64 0, .int .i64 0, .int .i64 0] 24 29
  have H_n := Lib.hid hn
  have H_r := Lib.hid hr
  have HS := Lib.hid (hs.below HB_W0)
  clear hs hn hr hZ
  have HBAD := Lib.hid (@findF_bad of ms s)
  have HOK := Lib.hid (@findF_ok of ms s)
  generalize findF of ms s = p at *
  obtain ⟨q_n_0, q_n_1⟩ := H_n.out.c2
  obtain ⟨q_r_0, q_r_1, q_r_2⟩ := H_r.out.c3
  go_enter Try.func14, Try.ntmps14
  go_wp2_with fail
  refine (bvalid_any _ _ _ _ ms _ HS.out).mono ?_
  rintro e wa ⟨rfl, hb_wa⟩
  have HB_wa : Below w.heap.size w wa := by first | exact after0 HB_W0 hb_wa | exact after1 HB_W0 hb_wa | exact after2 HB_W0 hb_wa | exact after3 HB_W0 hb_wa | exact after4 HB_W0 hb_wa | exact after5 HB_W0 hb_wa
  try clear q_n_0 q_n_1
  have H_n := Lib.hid (Box.below (by first | exact H_n.out | exact H_n.out.alloc _ | exact (H_n.out.alloc _).alloc _ | exact ((H_n.out.alloc _).alloc _).alloc _) hb_wa)
  obtain ⟨q_n_0, q_n_1⟩ := H_n.out.c2
  try clear q_r_0 q_r_1 q_r_2
  have H_r := Lib.hid (Box.below (by first | exact H_r.out | exact H_r.out.alloc _ | exact (H_r.out.alloc _).alloc _ | exact ((H_r.out.alloc _).alloc _).alloc _) hb_wa)
  obtain ⟨q_r_0, q_r_1, q_r_2⟩ := H_r.out.c3
  replace HS := Lib.hid (show Sl wa _ _ _ _ _ _ by first | exact HS.out.below hb_wa | exact (HS.out.below (grew1 (Below.refl _ _))).below hb_wa | exact (HS.out.below (grew2 (Below.refl _ _))).below hb_wa | exact (HS.out.below (grew3 (Below.refl _ _))).below hb_wa)
  clear hW0
  cases h1 : okB of ms
  · have HP2 := Lib.hid (HBAD.out (.inl h1))
    have f1 := H_r.out.frozen
    go_wp2_with fail
    obtain ⟨s0, s1, s2⟩ := (((H_r.out.set 0 (.int .i64 0)).set 1 (.int .i64 0)).set 2 (.int .i64 0)).c3
    refine bodyPost_ret (v := .tuple #[.agg #[.int .i64 0, .int .i64 0, .int .i64 0], .int .i64 1]) (by simp [results, Try.results14, go_sem, s0, s1, s2]) rfl ?_
    exact ⟨by rw [HP2.out]; try rfl, ((HB_wa.setCell (p := ⟨w.heap.size + 1, 0, none⟩) (by simp) _).setCell (p := ⟨w.heap.size + 1, 1, none⟩) (by simp) _).setCell (p := ⟨w.heap.size + 1, 2, none⟩) (by simp) _⟩
  go_wp2_with fail
  refine (number_any _ _).mono ?_
  rintro e wb ⟨rfl, hb_wb⟩
  have HB_wb : Below w.heap.size w wb := by first | exact after0 HB_wa hb_wb | exact after1 HB_wa hb_wb | exact after2 HB_wa hb_wb | exact after3 HB_wa hb_wb | exact after4 HB_wa hb_wb | exact after5 HB_wa hb_wb
  try clear q_n_0 q_n_1
  have H_n := Lib.hid (Box.below (by first | exact H_n.out | exact H_n.out.alloc _ | exact (H_n.out.alloc _).alloc _ | exact ((H_n.out.alloc _).alloc _).alloc _) hb_wb)
  obtain ⟨q_n_0, q_n_1⟩ := H_n.out.c2
  try clear q_r_0 q_r_1 q_r_2
  have H_r := Lib.hid (Box.below (by first | exact H_r.out | exact H_r.out.alloc _ | exact (H_r.out.alloc _).alloc _ | exact ((H_r.out.alloc _).alloc _).alloc _) hb_wb)
  obtain ⟨q_r_0, q_r_1, q_r_2⟩ := H_r.out.c3
  replace HS := Lib.hid (show Sl wb _ _ _ _ _ _ by first | exact HS.out.below hb_wb | exact (HS.out.below (grew1 (Below.refl _ _))).below hb_wb | exact (HS.out.below (grew2 (Below.refl _ _))).below hb_wb | exact (HS.out.below (grew3 (Below.refl _ _))).below hb_wb)
  cases h2 : okS s
  · have HP2 := Lib.hid (HBAD.out (.inr h2))
    have f1 := H_r.out.frozen
    go_wp2_with fail
    obtain ⟨s0, s1, s2⟩ := (((H_r.out.set 0 (.int .i64 0)).set 1 (.int .i64 0)).set 2 (.int .i64 0)).c3
    refine bodyPost_ret (v := .tuple #[.agg #[.int .i64 0, .int .i64 0, .int .i64 0], .int .i64 1]) (by simp [results, Try.results14, go_sem, s0, s1, s2]) rfl ?_
    exact ⟨by rw [HP2.out]; try rfl, ((HB_wb.setCell (p := ⟨w.heap.size + 1, 0, none⟩) (by simp) _).setCell (p := ⟨w.heap.size + 1, 1, none⟩) (by simp) _).setCell (p := ⟨w.heap.size + 1, 2, none⟩) (by simp) _⟩
  have HO := Lib.hid (HOK.out h1 h2)
  have HV := Lib.hid (okB_iff.1 h1).2
  clear h1 h2 HBAD HOK
  go_wp2_with fail
  refine (find_any _ _ _ _ ms _ _ HS.out HV.out).mono ?_
  rintro e wc ⟨rfl, hb_wc⟩
  have HB_wc : Below w.heap.size w wc := by first | exact after0 HB_wb hb_wc | exact after1 HB_wb hb_wc | exact after2 HB_wb hb_wc | exact after3 HB_wb hb_wc | exact after4 HB_wb hb_wc | exact after5 HB_wb hb_wc
  try clear q_n_0 q_n_1
  have H_n := Lib.hid (Box.below (by first | exact H_n.out | exact H_n.out.alloc _ | exact (H_n.out.alloc _).alloc _ | exact ((H_n.out.alloc _).alloc _).alloc _) hb_wc)
  obtain ⟨q_n_0, q_n_1⟩ := H_n.out.c2
  try clear q_r_0 q_r_1 q_r_2
  have H_r := Lib.hid (Box.below (by first | exact H_r.out | exact H_r.out.alloc _ | exact (H_r.out.alloc _).alloc _ | exact ((H_r.out.alloc _).alloc _).alloc _) hb_wc)
  obtain ⟨q_r_0, q_r_1, q_r_2⟩ := H_r.out.c3
  replace HS := Lib.hid (show Sl wc _ _ _ _ _ _ by first | exact HS.out.below hb_wc | exact (HS.out.below (grew1 (Below.refl _ _))).below hb_wc | exact (HS.out.below (grew2 (Below.refl _ _))).below hb_wc | exact (HS.out.below (grew3 (Below.refl _ _))).below hb_wc)
  cases hl : lookM ms s with
  | none =>
    have HP2 := Lib.hid (show p = (zeroM, 11) by rw [HO.out, hl])
    clear hl
    dsimp only [Option.getD, Option.isSome, zeroM]
    have f1 := H_r.out.frozen
    have hlt := H_r.out.lt
    go_wp2_with fail
    obtain ⟨s0, s1, s2⟩ := ((((H_r.out.set 0 (.int .i64 0)).set 1 (.int .i64 0)).set 2 (.int .i64 0)).alloc (.cells #[.int .i64 0, .int .i64 0, .int .i64 0] 29)).c3
    refine bodyPost_ret (v := .tuple #[.agg #[.int .i64 0, .int .i64 0, .int .i64 0], .int .i64 11]) (by simp [results, Try.results14, go_sem, s0, s1, s2]) rfl ?_
    exact ⟨by rw [HP2.out]; rfl, grew1 (((HB_wc.setCell (p := ⟨w.heap.size + 1, 0, none⟩) (by simp) _).setCell (p := ⟨w.heap.size + 1, 1, none⟩) (by simp) _).setCell (p := ⟨w.heap.size + 1, 2, none⟩) (by simp) _)⟩
  | some m =>
    have HP2 := Lib.hid (show p = (m, 0) by rw [HO.out, hl])
    clear hl
    obtain ⟨x0, x1, x2⟩ := m
    dsimp only [Option.getD, Option.isSome]
    obtain ⟨W1, hW1, hB1, hZ1, hb1⟩ := boxes1 wc [.int .i64 x0, .int .i64 x1, .int .i64 x2] 29
    have HB_W1 : Below w.heap.size w W1 := after0 HB_wc hB1
    replace H_r := Lib.hid (H_r.out.below hB1)
    have H_x := Lib.hid hb1
    clear hb1 hB1 hZ1
    obtain ⟨q_r_0, q_r_1, q_r_2⟩ := H_r.out.c3
    obtain ⟨q_x_0, q_x_1, q_x_2⟩ := H_x.out.c3
    have f1 := H_r.out.frozen
    go_wp2_with fail
    obtain ⟨s0, s1, s2⟩ := (((H_r.out.set 0 (.int .i64 x0)).set 1 (.int .i64 x1)).set 2 (.int .i64 x2)).c3
    refine bodyPost_ret (v := .tuple #[.agg #[.int .i64 x0, .int .i64 x1, .int .i64 x2], .int .i64 0]) (by simp [results, Try.results14, go_sem, s0, s1, s2]) rfl ?_
    exact ⟨by rw [HP2.out]; try rfl, ((HB_W1.setCell (p := ⟨w.heap.size + 1, 0, none⟩) (by simp) _).setCell (p := ⟨w.heap.size + 1, 1, none⟩) (by simp) _).setCell (p := ⟨w.heap.size + 1, 2, none⟩) (by simp) _⟩

set_option maxRecDepth 100000 in
set_option maxHeartbeats 2000000 in
theorem Translate_any (oa : Int) (aa : Option Addr) (na ca : Nat) (a : List Mk) (ob : Int) (ab : Option Addr) (nb cb : Nat) (b : List Mk) (s : Int) (w : World) (ha : Sl w 3 cM aa na ca a) (hb : Sl w 3 cM ab nb cb b) :
    Calls Try.prog 16 #[.agg #[.int .i64 oa, .slice aa na ca], .agg #[.int .i64 ob, .slice ab nb cb], .int .i64 s] w
      (Ret w (.tuple #[.int .i64 (translate oa a ob b s).1, .int .i64 (translate oa a ob b s).2])) := by
  obtain ⟨W0, hW0, HB_W0, hZ, hn, hm⟩ := boxes2 w [.int .i64 oa, .slice aa na ca] [.int .i64 ob, .slice ab nb cb] 24 24
  have H_n := Lib.hid hn
  have H_m := Lib.hid hm
  have HSA := Lib.hid (ha.below HB_W0)
  have HSB := Lib.hid (hb.below HB_W0)
  clear ha hb hn hm hZ
  have HBAD := Lib.hid (@translate_bad oa ob a b s)
  have HOK := Lib.hid (@translate_ok oa ob a b s)
  generalize translate oa a ob b s = p at *
  obtain ⟨q_n_0, q_n_1⟩ := H_n.out.c2
  obtain ⟨q_m_0, q_m_1⟩ := H_m.out.c2
  go_enter Try.func16, Try.ntmps16
  go_wp2_with fail
  refine (bvalid_any _ _ _ _ a _ HSA.out).mono ?_
  rintro e wa ⟨rfl, hb_wa⟩
  have HB_wa : Below w.heap.size w wa := by first | exact after0 HB_W0 hb_wa | exact after1 HB_W0 hb_wa | exact after2 HB_W0 hb_wa | exact after3 HB_W0 hb_wa | exact after4 HB_W0 hb_wa | exact after5 HB_W0 hb_wa
  try clear q_n_0 q_n_1
  have H_n := Lib.hid (Box.below (by first | exact H_n.out | exact H_n.out.alloc _ | exact (H_n.out.alloc _).alloc _ | exact ((H_n.out.alloc _).alloc _).alloc _) hb_wa)
  obtain ⟨q_n_0, q_n_1⟩ := H_n.out.c2
  try clear q_m_0 q_m_1
  have H_m := Lib.hid (Box.below (by first | exact H_m.out | exact H_m.out.alloc _ | exact (H_m.out.alloc _).alloc _ | exact ((H_m.out.alloc _).alloc _).alloc _) hb_wa)
  obtain ⟨q_m_0, q_m_1⟩ := H_m.out.c2
  replace HSA := Lib.hid (show Sl wa _ _ _ _ _ _ by first | exact HSA.out.below hb_wa | exact (HSA.out.below (grew1 (Below.refl _ _))).below hb_wa | exact (HSA.out.below (grew2 (Below.refl _ _))).below hb_wa | exact (HSA.out.below (grew3 (Below.refl _ _))).below hb_wa)
  replace HSB := Lib.hid (show Sl wa _ _ _ _ _ _ by first | exact HSB.out.below hb_wa | exact (HSB.out.below (grew1 (Below.refl _ _))).below hb_wa | exact (HSB.out.below (grew2 (Below.refl _ _))).below hb_wa | exact (HSB.out.below (grew3 (Below.refl _ _))).below hb_wa)
  clear hW0
  cases h1 : okB oa a
  · have HP2 := Lib.hid (HBAD.out (by simp [h1]))
    go_wp2_with fail
    go_ret2
    exact ⟨ret_pair HP2.out, HB_wa⟩
  go_wp2_with fail
  refine (bvalid_any _ _ _ _ b _ HSB.out).mono ?_
  rintro e wb ⟨rfl, hb_wb⟩
  have HB_wb : Below w.heap.size w wb := by first | exact after0 HB_wa hb_wb | exact after1 HB_wa hb_wb | exact after2 HB_wa hb_wb | exact after3 HB_wa hb_wb | exact after4 HB_wa hb_wb | exact after5 HB_wa hb_wb
  try clear q_n_0 q_n_1
  have H_n := Lib.hid (Box.below (by first | exact H_n.out | exact H_n.out.alloc _ | exact (H_n.out.alloc _).alloc _ | exact ((H_n.out.alloc _).alloc _).alloc _) hb_wb)
  obtain ⟨q_n_0, q_n_1⟩ := H_n.out.c2
  try clear q_m_0 q_m_1
  have H_m := Lib.hid (Box.below (by first | exact H_m.out | exact H_m.out.alloc _ | exact (H_m.out.alloc _).alloc _ | exact ((H_m.out.alloc _).alloc _).alloc _) hb_wb)
  obtain ⟨q_m_0, q_m_1⟩ := H_m.out.c2
  replace HSA := Lib.hid (show Sl wb _ _ _ _ _ _ by first | exact HSA.out.below hb_wb | exact (HSA.out.below (grew1 (Below.refl _ _))).below hb_wb | exact (HSA.out.below (grew2 (Below.refl _ _))).below hb_wb | exact (HSA.out.below (grew3 (Below.refl _ _))).below hb_wb)
  replace HSB := Lib.hid (show Sl wb _ _ _ _ _ _ by first | exact HSB.out.below hb_wb | exact (HSB.out.below (grew1 (Below.refl _ _))).below hb_wb | exact (HSB.out.below (grew2 (Below.refl _ _))).below hb_wb | exact (HSB.out.below (grew3 (Below.refl _ _))).below hb_wb)
  cases h2 : okB ob b
  · have HP2 := Lib.hid (HBAD.out (by simp [h2]))
    go_wp2_with fail
    go_ret2
    exact ⟨ret_pair HP2.out, HB_wb⟩
  go_wp2_with fail
  refine (number_any _ _).mono ?_
  rintro e wc ⟨rfl, hb_wc⟩
  have HB_wc : Below w.heap.size w wc := by first | exact after0 HB_wb hb_wc | exact after1 HB_wb hb_wc | exact after2 HB_wb hb_wc | exact after3 HB_wb hb_wc | exact after4 HB_wb hb_wc | exact after5 HB_wb hb_wc
  try clear q_n_0 q_n_1
  have H_n := Lib.hid (Box.below (by first | exact H_n.out | exact H_n.out.alloc _ | exact (H_n.out.alloc _).alloc _ | exact ((H_n.out.alloc _).alloc _).alloc _) hb_wc)
  obtain ⟨q_n_0, q_n_1⟩ := H_n.out.c2
  try clear q_m_0 q_m_1
  have H_m := Lib.hid (Box.below (by first | exact H_m.out | exact H_m.out.alloc _ | exact (H_m.out.alloc _).alloc _ | exact ((H_m.out.alloc _).alloc _).alloc _) hb_wc)
  obtain ⟨q_m_0, q_m_1⟩ := H_m.out.c2
  replace HSA := Lib.hid (show Sl wc _ _ _ _ _ _ by first | exact HSA.out.below hb_wc | exact (HSA.out.below (grew1 (Below.refl _ _))).below hb_wc | exact (HSA.out.below (grew2 (Below.refl _ _))).below hb_wc | exact (HSA.out.below (grew3 (Below.refl _ _))).below hb_wc)
  replace HSB := Lib.hid (show Sl wc _ _ _ _ _ _ by first | exact HSB.out.below hb_wc | exact (HSB.out.below (grew1 (Below.refl _ _))).below hb_wc | exact (HSB.out.below (grew2 (Below.refl _ _))).below hb_wc | exact (HSB.out.below (grew3 (Below.refl _ _))).below hb_wc)
  cases h3 : okS s
  · have HP2 := Lib.hid (HBAD.out (by simp [h3]))
    go_wp2_with fail
    go_ret2
    exact ⟨ret_pair HP2.out, HB_wc⟩
  have HO := Lib.hid (HOK.out (by simp [h1, h2, h3]))
  have HVA := Lib.hid (okB_iff.1 h1).2
  clear h1 h2 h3 HBAD HOK
  go_wp2_with fail
  refine (find_any _ _ _ _ a _ _ HSA.out HVA.out).mono ?_
  rintro e wd ⟨rfl, hb_wd⟩
  have HB_wd : Below w.heap.size w wd := by first | exact after0 HB_wc hb_wd | exact after1 HB_wc hb_wd | exact after2 HB_wc hb_wd | exact after3 HB_wc hb_wd | exact after4 HB_wc hb_wd | exact after5 HB_wc hb_wd
  try clear q_n_0 q_n_1
  have H_n := Lib.hid (Box.below (by first | exact H_n.out | exact H_n.out.alloc _ | exact (H_n.out.alloc _).alloc _ | exact ((H_n.out.alloc _).alloc _).alloc _) hb_wd)
  obtain ⟨q_n_0, q_n_1⟩ := H_n.out.c2
  try clear q_m_0 q_m_1
  have H_m := Lib.hid (Box.below (by first | exact H_m.out | exact H_m.out.alloc _ | exact (H_m.out.alloc _).alloc _ | exact ((H_m.out.alloc _).alloc _).alloc _) hb_wd)
  obtain ⟨q_m_0, q_m_1⟩ := H_m.out.c2
  replace HSA := Lib.hid (show Sl wd _ _ _ _ _ _ by first | exact HSA.out.below hb_wd | exact (HSA.out.below (grew1 (Below.refl _ _))).below hb_wd | exact (HSA.out.below (grew2 (Below.refl _ _))).below hb_wd | exact (HSA.out.below (grew3 (Below.refl _ _))).below hb_wd)
  replace HSB := Lib.hid (show Sl wd _ _ _ _ _ _ by first | exact HSB.out.below hb_wd | exact (HSB.out.below (grew1 (Below.refl _ _))).below hb_wd | exact (HSB.out.below (grew2 (Below.refl _ _))).below hb_wd | exact (HSB.out.below (grew3 (Below.refl _ _))).below hb_wd)
  cases hl : lookM a s with
  | none =>
    have HP2 := Lib.hid (show p = (0, 11) by rw [HO.out, hl])
    clear hl
    dsimp only [Option.getD, Option.isSome, zeroM]
    go_wp2_with fail
    go_ret2
    exact ⟨ret_pair HP2.out, grew1 HB_wd⟩
  | some m =>
    have HP2 := Lib.hid (show p = if found (trans b m) then ((trans b m).sy, 0) else (0, 4) by rw [HO.out, hl])
    clear hl
    obtain ⟨x0, x1, x2⟩ := m
    dsimp only [Option.getD, Option.isSome]
    obtain ⟨W1, hW1, hB1, hZ1, hb1⟩ := boxes1 wd [.int .i64 x0, .int .i64 x1, .int .i64 x2] 29
    obtain ⟨NX, hNX⟩ : ∃ N, wd.heap.size = N := ⟨_, rfl⟩
    rw [hNX] at hb1
    have HNX : w.heap.size ≤ NX := hNX ▸ HB_wd.size
    have HB_W1 : Below w.heap.size w W1 := after0 HB_wd hB1
    have H_x := Lib.hid hb1
    replace H_m := Lib.hid (H_m.out.below hB1)
    replace HSB := Lib.hid (HSB.out.below hB1)
    clear hb1 hB1 hZ1
    obtain ⟨q_x_0, q_x_1, q_x_2⟩ := H_x.out.c3
    obtain ⟨q_m_0, q_m_1⟩ := H_m.out.c2
    go_wp2_with fail
    refine (translation_any _ _ _ _ b _ _ _ _ HSB.out).mono ?_
    rintro e we ⟨rfl, hb_we⟩
    have HB_we : Below w.heap.size w we := by first | exact after0 HB_W1 hb_we | exact after1 HB_W1 hb_we | exact after2 HB_W1 hb_we | exact after3 HB_W1 hb_we | exact after4 HB_W1 hb_we | exact after5 HB_W1 hb_we
    try clear q_x_0 q_x_1 q_x_2
    have H_x := Lib.hid (Box.below (by first | exact H_x.out | exact H_x.out.alloc _ | exact (H_x.out.alloc _).alloc _ | exact ((H_x.out.alloc _).alloc _).alloc _) hb_we)
    obtain ⟨q_x_0, q_x_1, q_x_2⟩ := H_x.out.c3
    clear hW1 hNX
    generalize trans b ⟨x0, x1, x2⟩ = t at *
    obtain ⟨t0, t1, t2⟩ := t
    have f1 := H_x.out.frozen
    dsimp only
    cases hf : found ⟨t0, t1, t2⟩
    · have HP3 := Lib.hid (HP2.out.trans (if_neg (by rw [hf]; simp)))
      clear hf
      go_wp2_with fail
      go_ret2
      exact ⟨ret_pair HP3.out, ((HB_we.setCell (p := ⟨NX, 0, none⟩) HNX _).setCell (p := ⟨NX, 1, none⟩) HNX _).setCell (p := ⟨NX, 2, none⟩) HNX _⟩
    · have HP3 := Lib.hid (HP2.out.trans (if_pos hf))
      clear hf
      go_wp2_with fail
      go_ret2
      exact ⟨ret_pair HP3.out, ((HB_we.setCell (p := ⟨NX, 0, none⟩) HNX _).setCell (p := ⟨NX, 1, none⟩) HNX _).setCell (p := ⟨NX, 2, none⟩) HNX _⟩
end Go.Proofs.Ytmnlkndbdcdngaa
