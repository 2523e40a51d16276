/-
  Walks of the layer 'reuse': asked, Take, Old, the law's own 'dropped'.
-/
import Derived.Test.YtpdecgbfnhaojaaGreatReuB
import Derived.Test.YtpdecgbfnhaojaaGreatReuQ
import Derived.Test.YtpdecgbfnhaojaaGreatClkC
set_option linter.unusedVariables false
namespace Go.Proofs.YtpdecgbfnhaojaaGreat
open Go.RowKit Nb Sk Ck Ru Go.Sort

set_option maxRecDepth 100000 in
theorem asked_any (ao : Option Addr) (n cap : Nat) (l : List Us) (st kd now : Int) (w : World) (hs : Sl w 5 cU ao n cap l) : Calls Tryz.prog 30 #[.slice ao n cap, .int .i64 st, .int .i64 kd, .int .i64 now] w (Ret w (.bool (askedR l st kd now))) := by
  have HS := Lib.hid hs
  have HQ := Lib.hid (show askedR l st kd now = (rows l && okN ⟨st, kd, 1⟩ && tm now) from rfl)
  have HB_w : Below w.heap.size w w := Below.refl _ _
  clear hs
  generalize askedR l st kd now = v at *
  go_enter Tryz.func30, Tryz.ntmps30
  go_wp2_with fail
  refine (rows_any _ _ _ l _ HS.out).mono ?_
  rintro e wa ⟨rfl, hb_wa⟩
  have HB_wa : Below w.heap.size w wa := by first | exact after0 HB_w hb_wa | exact after1 HB_w hb_wa | exact after2 HB_w hb_wa | exact after3 HB_w hb_wa | exact after4 HB_w hb_wa | exact after5 HB_w hb_wa
  replace HS := Lib.hid (show Sl wa _ _ _ _ _ _ by first | exact HS.out.below hb_wa | exact (HS.out.below (grew1 (Below.refl _ _))).below hb_wa | exact (HS.out.below (grew2 (Below.refl _ _))).below hb_wa | exact (HS.out.below (grew3 (Below.refl _ _))).below hb_wa)
  cases h1 : rows l
  · have HP := Lib.hid (show v = false by rw [HQ.out, h1]; rfl)
    clear h1
    go_wp2_with fail
    go_ret
    exact ⟨ret_bool' HP.out.symm, HB_wa⟩
  go_wp2_with fail
  refine (valid_any _ _ _ _).mono ?_
  rintro e wb ⟨rfl, hb_wb⟩
  have HB_wb : Below w.heap.size w wb := by first | exact after0 HB_wa hb_wb | exact after1 HB_wa hb_wb | exact after2 HB_wa hb_wb | exact after3 HB_wa hb_wb | exact after4 HB_wa hb_wb | exact after5 HB_wa hb_wb
  cases h2 : okN ⟨st, kd, 1⟩
  · have HP := Lib.hid (show v = false by rw [HQ.out, h1, h2]; rfl)
    clear h1 h2
    go_wp2_with fail
    go_ret
    exact ⟨ret_bool' HP.out.symm, HB_wb⟩
  go_wp2_with fail
  refine (time_any _ _).mono ?_
  rintro e wc ⟨rfl, hb_wc⟩
  have HB_wc : Below w.heap.size w wc := by first | exact after0 HB_wb hb_wc | exact after1 HB_wb hb_wc | exact after2 HB_wb hb_wc | exact after3 HB_wb hb_wc | exact after4 HB_wb hb_wc | exact after5 HB_wb hb_wc
  have HP := Lib.hid (show v = tm now by rw [HQ.out, h1, h2]; rfl)
  clear h1 h2
  go_wp2_with fail
  go_ret
  exact ⟨ret_bool' HP.out.symm, HB_wc⟩

theorem old_bad {l : List Us} {n : Nm} {c : Clk} {r : Int} (h : rows l = false ∨ okN n = false) : oldR l n c r = (0, 1) := by
  unfold oldR; rw [if_neg]
  rcases h with h | h <;> simp [h]
theorem old_v {l : List Us} {n : Nm} {c : Clk} {r x y q : Int} (h1 : rows l = true) (h2 : okN n = true) (h : true_ c r = ((x, y), q)) : oldR l n c r = if q ≠ 0 then (0, q) else sure l n x y := by
  unfold oldR; rw [if_pos (by simp [h1, h2]), h]

set_option maxRecDepth 100000 in
set_option maxHeartbeats 2000000 in
theorem Old_any (ao : Option Addr) (n cap : Nat) (l : List Us) (n1 n2 n3 : Int) (c : Clk) (r : Int) (w : World) (hs : Sl w 5 cU ao n cap l) :
    Calls Tryz.prog 15 #[.slice ao n cap, .agg #[.int .i64 n1, .int .i64 n2, .int .i64 n3], eC c, .int .i64 r] w (Ret w (eI (oldR l ⟨n1, n2, n3⟩ c r))) := by
  have HBAD := Lib.hid (@old_bad l ⟨n1, n2, n3⟩ c r)
  have HT := Lib.hid (fun W => true_any c r W)
  obtain ⟨⟨⟨x, y⟩, q⟩, hs0⟩ : ∃ s, true_ c r = s := ⟨_, rfl⟩
  have HV := Lib.hid (fun h1 h2 => @old_v l ⟨n1, n2, n3⟩ c r x y q h1 h2 hs0)
  rw [hs0] at HT
  clear hs0
  generalize oldR l ⟨n1, n2, n3⟩ c r = p at *
  obtain ⟨a, b, d, e⟩ := c
  obtain ⟨W0, hW0, HB_W0, hZ, hn, hc⟩ := boxes2 w [.int .i64 n1, .int .i64 n2, .int .i64 n3] [.int .i64 a, .int .i64 b, .int .i64 d, .int .i64 e] 29 27
  have H_n := Lib.hid hn
  have H_c := Lib.hid hc
  have HS := Lib.hid (hs.below HB_W0)
  clear hn hc hZ hs
  obtain ⟨q_n_0, q_n_1, q_n_2⟩ := H_n.out.c3
  obtain ⟨q_c_0, q_c_1, q_c_2, q_c_3⟩ := H_c.out.c4
  go_enter Tryz.func15, Tryz.ntmps15
  go_wp2_with fail
  refine (rows_any _ _ _ l _ HS.out).mono ?_
  rintro e wa ⟨rfl, hb_wa⟩
  have HB_wa : Below w.heap.size w wa := by first | exact after0 HB_W0 hb_wa | exact after1 HB_W0 hb_wa | exact after2 HB_W0 hb_wa | exact after3 HB_W0 hb_wa | exact after4 HB_W0 hb_wa | exact after5 HB_W0 hb_wa
  try clear q_n_0 q_n_1 q_n_2
  have H_n := Lib.hid (Box.below (by first | exact H_n.out | exact H_n.out.alloc _ | exact (H_n.out.alloc _).alloc _ | exact ((H_n.out.alloc _).alloc _).alloc _) hb_wa)
  obtain ⟨q_n_0, q_n_1, q_n_2⟩ := H_n.out.c3
  try clear q_c_0 q_c_1 q_c_2 q_c_3
  have H_c := Lib.hid (Box.below (by first | exact H_c.out | exact H_c.out.alloc _ | exact (H_c.out.alloc _).alloc _ | exact ((H_c.out.alloc _).alloc _).alloc _) hb_wa)
  obtain ⟨q_c_0, q_c_1, q_c_2, q_c_3⟩ := H_c.out.c4
  replace HS := Lib.hid (show Sl wa _ _ _ _ _ _ by first | exact HS.out.below hb_wa | exact (HS.out.below (grew1 (Below.refl _ _))).below hb_wa | exact (HS.out.below (grew2 (Below.refl _ _))).below hb_wa | exact (HS.out.below (grew3 (Below.refl _ _))).below hb_wa)
  clear hW0
  cases h1 : rows l
  · have HP := Lib.hid (HBAD.out (.inl h1))
    clear h1
    go_wp2_with fail
    go_ret2
    exact ⟨ret_pair HP.out, HB_wa⟩
  go_wp2_with fail
  refine (valid_any _ _ _ _).mono ?_
  rintro e wb ⟨rfl, hb_wb⟩
  have HB_wb : Below w.heap.size w wb := by first | exact after0 HB_wa hb_wb | exact after1 HB_wa hb_wb | exact after2 HB_wa hb_wb | exact after3 HB_wa hb_wb | exact after4 HB_wa hb_wb | exact after5 HB_wa hb_wb
  try clear q_n_0 q_n_1 q_n_2
  have H_n := Lib.hid (Box.below (by first | exact H_n.out | exact H_n.out.alloc _ | exact (H_n.out.alloc _).alloc _ | exact ((H_n.out.alloc _).alloc _).alloc _) hb_wb)
  obtain ⟨q_n_0, q_n_1, q_n_2⟩ := H_n.out.c3
  try clear q_c_0 q_c_1 q_c_2 q_c_3
  have H_c := Lib.hid (Box.below (by first | exact H_c.out | exact H_c.out.alloc _ | exact (H_c.out.alloc _).alloc _ | exact ((H_c.out.alloc _).alloc _).alloc _) hb_wb)
  obtain ⟨q_c_0, q_c_1, q_c_2, q_c_3⟩ := H_c.out.c4
  replace HS := Lib.hid (show Sl wb _ _ _ _ _ _ by first | exact HS.out.below hb_wb | exact (HS.out.below (grew1 (Below.refl _ _))).below hb_wb | exact (HS.out.below (grew2 (Below.refl _ _))).below hb_wb | exact (HS.out.below (grew3 (Below.refl _ _))).below hb_wb)
  cases h2 : okN ⟨n1, n2, n3⟩
  · have HP := Lib.hid (HBAD.out (.inr h2))
    clear h1 h2
    go_wp2_with fail
    go_ret2
    exact ⟨ret_pair HP.out, HB_wb⟩
  have HP := Lib.hid (HV.out h1 h2)
  clear h1 h2 HBAD HV
  go_wp2_with fail
  refine (HT.out _).mono ?_
  rintro e wc ⟨rfl, hb_wc⟩
  have HB_wc : Below w.heap.size w wc := by first | exact after0 HB_wb hb_wc | exact after1 HB_wb hb_wc | exact after2 HB_wb hb_wc | exact after3 HB_wb hb_wc | exact after4 HB_wb hb_wc | exact after5 HB_wb hb_wc
  try clear q_n_0 q_n_1 q_n_2
  have H_n := Lib.hid (Box.below (by first | exact H_n.out | exact H_n.out.alloc _ | exact (H_n.out.alloc _).alloc _ | exact ((H_n.out.alloc _).alloc _).alloc _) hb_wc)
  obtain ⟨q_n_0, q_n_1, q_n_2⟩ := H_n.out.c3
  replace HS := Lib.hid (show Sl wc _ _ _ _ _ _ by first | exact HS.out.below hb_wc | exact (HS.out.below (grew1 (Below.refl _ _))).below hb_wc | exact (HS.out.below (grew2 (Below.refl _ _))).below hb_wc | exact (HS.out.below (grew3 (Below.refl _ _))).below hb_wc)
  obtain ⟨W1, hW1, hB1, hZ1, hb1⟩ := boxes1 wc [.int .i64 x, .int .i64 y] 25
  have H_s := Lib.hid hb1
  have HB_W1 : Below w.heap.size w W1 := after0 HB_wc hB1
  replace H_n := Lib.hid (H_n.out.below hB1)
  replace HS := Lib.hid (HS.out.below hB1)
  clear hb1 hZ1 hB1 q_n_0 q_n_1 q_n_2
  obtain ⟨q_s_0, q_s_1⟩ := H_s.out.c2
  obtain ⟨q_n_0, q_n_1, q_n_2⟩ := H_n.out.c3
  by_cases hq : q = 0
  case neg =>
    have HP2 := Lib.hid (HP.out.trans (if_pos hq))
    have hq1 : (q != 0) = true := bne_iff_ne.2 hq
    clear hq
    go_wp2_with fail
    go_ret2
    exact ⟨ret_pair HP2.out, HB_W1⟩
  subst hq
  have HP2 := Lib.hid (HP.out.trans (if_neg (by simp)))
  go_wp2_with fail
  refine (sure_any _ _ _ l _ _ _ _ _ _ HS.out).mono ?_
  rintro e wd ⟨rfl, hb_wd⟩
  have HB_wd : Below w.heap.size w wd := by first | exact after0 HB_W1 hb_wd | exact after1 HB_W1 hb_wd | exact after2 HB_W1 hb_wd | exact after3 HB_W1 hb_wd | exact after4 HB_W1 hb_wd | exact after5 HB_W1 hb_wd
  clear hW1
  rw [← HP2.out]
  go_wp2_with fail
  go_ret2
  exact ⟨rfl, HB_wd⟩

theorem takeR_bad {l : List Us} {st kd now u k : Int} {cs : List Clk} (h : askedR l st kd now = false) : takeR l st kd now u k cs = ([], zeroN, 1) := by unfold takeR; rw [if_neg (by simp [h])]
theorem takeR_v {l : List Us} {st kd now u k t q : Int} {cs : List Clk} (h : askedR l st kd now = true) (hf : freeF u k cs = (t, q)) : takeR l st kd now u k cs = if q ≠ 0 then ([], zeroN, q) else take l st kd now (max t (now + 1)) := by
  unfold takeR; rw [if_pos h, hf]


set_option maxRecDepth 100000 in
set_option maxHeartbeats 4000000 in
theorem Take_any (ao : Option Addr) (n cap : Nat) (l : List Us) (st kd now u k : Int) (co : Option Addr) (cn cc : Nat) (cs : List Clk) (w : World) (hs : Sl w 5 cU ao n cap l) (hc : Sl w 4 cC co cn cc cs) :
    Calls Tryz.prog 10 #[.slice ao n cap, .int .i64 st, .int .i64 kd, .int .i64 now, .int .i64 u, .int .i64 k, .slice co cn cc] w (Took w (takeR l st kd now u k cs)) := by
  have HBAD := Lib.hid (@takeR_bad l st kd now u k cs)
  obtain ⟨⟨t, q⟩, hf⟩ : ∃ s, freeF u k cs = s := ⟨_, rfl⟩
  have HV := Lib.hid (fun h => @takeR_v l st kd now u k t q cs h hf)
  have HF := Lib.hid (fun W hW => (show Calls Tryz.prog 6 #[.int .i64 u, .int .i64 k, .slice co cn cc] W (Ret W (eI (t, q))) from by have := Free_any u k co cn cc cs W hW; rwa [hf] at this))
  have HT0 := Lib.hid (show q = 0 → 0 ≤ t ∧ t ≤ 10000000 from fun h => by subst h; have := free_ok hf; exact this.2.2.2.2)
  clear hf
  generalize takeR l st kd now u k cs = p at *
  obtain ⟨W0, hW0, HB_W0, hZ, hn⟩ := boxes1 w [.int .i64 0, .int .i64 0, .int .i64 0] 29
  have H_r := Lib.hid hn
  have HS := Lib.hid (hs.below HB_W0)
  have HCS := Lib.hid (hc.below HB_W0)
  clear hn hZ hs hc
  go_enter Tryz.func10, Tryz.ntmps10
  go_wp2_with fail
  refine (asked_any _ _ _ l _ _ _ _ HS.out).mono ?_
  rintro e wa ⟨rfl, hb_wa⟩
  have HB_wa : Below w.heap.size w wa := by first | exact after0 HB_W0 hb_wa | exact after1 HB_W0 hb_wa | exact after2 HB_W0 hb_wa | exact after3 HB_W0 hb_wa | exact after4 HB_W0 hb_wa | exact after5 HB_W0 hb_wa
  replace HS := Lib.hid (show Sl wa _ _ _ _ _ _ by first | exact HS.out.below hb_wa | exact (HS.out.below (grew1 (Below.refl _ _))).below hb_wa | exact (HS.out.below (grew2 (Below.refl _ _))).below hb_wa | exact (HS.out.below (grew3 (Below.refl _ _))).below hb_wa)
  replace HCS := Lib.hid (show Sl wa _ _ _ _ _ _ by first | exact HCS.out.below hb_wa | exact (HCS.out.below (grew1 (Below.refl _ _))).below hb_wa | exact (HCS.out.below (grew2 (Below.refl _ _))).below hb_wa | exact (HCS.out.below (grew3 (Below.refl _ _))).below hb_wa)
  replace H_r := Lib.hid (H_r.out.below hb_wa)
  clear hW0
  cases h1 : askedR l st kd now
  · have HP := Lib.hid (HBAD.out h1)
    clear h1
    have f1 := H_r.out.frozen
    obtain ⟨q_r_0, q_r_1, q_r_2⟩ := H_r.out.c3
    go_wp2_with fail
    obtain ⟨s0, s1, s2⟩ := (((H_r.out.set 0 (.int .i64 0)).set 1 (.int .i64 0)).set 2 (.int .i64 0)).c3
    refine bodyPost_ret (v := .tuple #[.slice none 0 0, .agg #[.int .i64 0, .int .i64 0, .int .i64 0], .int .i64 1]) (by simp [results, Tryz.results10, go_sem, s0, s1, s2]) rfl ?_
    exact ⟨none, 0, 0, by rw [HP.out]; rfl, by rw [HP.out]; exact Sl.nil, by rw [HP.out]; exact World.ownsRow_nil _ _ _ _, ((HB_wa.setCell (p := ⟨w.heap.size, 0, none⟩) (by simp) _).setCell (p := ⟨w.heap.size, 1, none⟩) (by simp) _).setCell (p := ⟨w.heap.size, 2, none⟩) (by simp) _⟩
  have HP0 := Lib.hid (HV.out h1)
  have hnow := tm_iff.1 (askedR_iff.1 h1).2.2
  clear h1 HV HBAD
  go_wp2_with fail
  refine (HF.out _ HCS.out).mono ?_
  rintro e wb ⟨rfl, hb_wb⟩
  have HB_wb : Below w.heap.size w wb := by first | exact after0 HB_wa hb_wb | exact after1 HB_wa hb_wb | exact after2 HB_wa hb_wb | exact after3 HB_wa hb_wb | exact after4 HB_wa hb_wb | exact after5 HB_wa hb_wb
  replace HS := Lib.hid (show Sl wb _ _ _ _ _ _ by first | exact HS.out.below hb_wb | exact (HS.out.below (grew1 (Below.refl _ _))).below hb_wb | exact (HS.out.below (grew2 (Below.refl _ _))).below hb_wb | exact (HS.out.below (grew3 (Below.refl _ _))).below hb_wb)
  replace HCS := Lib.hid (show Sl wb _ _ _ _ _ _ by first | exact HCS.out.below hb_wb | exact (HCS.out.below (grew1 (Below.refl _ _))).below hb_wb | exact (HCS.out.below (grew2 (Below.refl _ _))).below hb_wb | exact (HCS.out.below (grew3 (Below.refl _ _))).below hb_wb)
  replace H_r := Lib.hid (H_r.out.below hb_wb)
  by_cases hq : q = 0
  case neg =>
    have HP := Lib.hid (HP0.out.trans (if_pos hq))
    have hq1 : (q != 0) = true := bne_iff_ne.2 hq
    clear hq
    have f1 := H_r.out.frozen
    obtain ⟨q_r_0, q_r_1, q_r_2⟩ := H_r.out.c3
    go_wp2_with fail
    obtain ⟨s0, s1, s2⟩ := (((H_r.out.set 0 (.int .i64 0)).set 1 (.int .i64 0)).set 2 (.int .i64 0)).c3
    refine bodyPost_ret (v := .tuple #[.slice none 0 0, .agg #[.int .i64 0, .int .i64 0, .int .i64 0], .int .i64 q]) (by simp [results, Tryz.results10, go_sem, s0, s1, s2]) rfl ?_
    exact ⟨none, 0, 0, by rw [HP.out]; rfl, by rw [HP.out]; exact Sl.nil, by rw [HP.out]; exact World.ownsRow_nil _ _ _ _, ((HB_wb.setCell (p := ⟨w.heap.size, 0, none⟩) (by simp) _).setCell (p := ⟨w.heap.size, 1, none⟩) (by simp) _).setCell (p := ⟨w.heap.size, 2, none⟩) (by simp) _⟩
  have hT0 := HT0.out hq
  subst hq
  have HP := Lib.hid (HP0.out.trans (if_neg (by simp)))
  obtain ⟨ht0, ht1⟩ := hT0
  obtain ⟨hn0, hn1⟩ := hnow
  clear HP0 HT0 HF HCS
  go_wp2_with fail
  have hmx : mostOf [t, now + 1] = max t (now + 1) := by simp [mostOf]; omega
  refine (most_any _ 2 2 [t, now + 1] _ (Sl.lit (l := [t, now + 1]) cI_len (by simpa using Box.new wb [.int .i64 t, .int .i64 (now + 1)] 3) (by simp [maxLen]))).mono ?_
  rintro e wc ⟨rfl, hb_wc⟩
  rw [hmx]
  have HB_wc : Below w.heap.size w wc := after1 HB_wb hb_wc
  have hb1 : Below wb.heap.size wb wc := (grew1 (Below.refl _ _)).trans (hb_wc.mono (by simp))
  replace H_r := Lib.hid (H_r.out.below hb1)
  replace HS := Lib.hid (HS.out.below hb1)
  clear hb_wc hmx hb1
  generalize max t (now + 1) = m at *
  go_wp2_with fail
  refine (take_any _ _ _ l st kd now m _ HS.out).mono ?_
  rintro e wd ⟨ao2, n2, cap2, rfl, hsl, ho, hb_wd⟩
  rw [← HP.out] at hsl ho ⊢
  obtain ⟨l', ⟨x0, x1, x2⟩, q⟩ := p
  dsimp only at hsl ho ⊢
  have HB_wd : Below w.heap.size w wd := after0 HB_wc hb_wd
  have HLT := Lib.hid H_r.out.lt
  replace H_r := Lib.hid (H_r.out.below hb_wd)
  have HSL := Lib.hid hsl
  have HO := Lib.hid ho
  clear hsl ho hb_wd HP
  have f1 := H_r.out.frozen
  obtain ⟨q_r_0, q_r_1, q_r_2⟩ := H_r.out.c3
  go_wp2_with fail
  obtain ⟨s0, s1, s2⟩ := (((H_r.out.set 0 (.int .i64 x0)).set 1 (.int .i64 x1)).set 2 (.int .i64 x2)).c3
  refine bodyPost_ret (v := .tuple #[.slice ao2 n2 cap2, .agg #[.int .i64 x0, .int .i64 x1, .int .i64 x2], .int .i64 q]) (by simp [results, Tryz.results10, go_sem, s0, s1, s2]) rfl ?_
  have ho3 := owns_setCell (owns_setCell (owns_setCell HO.out HLT.out (j := 0) (x := .int .i64 x0)) HLT.out (j := 1) (x := .int .i64 x1)) HLT.out (j := 2) (x := .int .i64 x2)
  obtain ⟨ao4, cap4, e4, hsl4, _⟩ := Sl.of_owns cU_len ho3 HSL.out.len
  simp only [Value.slice.injEq] at e4
  obtain ⟨rfl, _, rfl⟩ := e4
  exact ⟨ao2, n2, cap2, rfl, hsl4, owns_mono ho3 (Nat.le_of_lt HLT.out), ((HB_wd.setCell (p := ⟨w.heap.size, 0, none⟩) (by simp) _).setCell (p := ⟨w.heap.size, 1, none⟩) (by simp) _).setCell (p := ⟨w.heap.size, 2, none⟩) (by simp) _⟩

theorem dropped_step {cs : List Clk} {u k t : Int} {j : Nat} (h : j < cs.length) : droppedF (cs.take (j + 1)) u k t = (droppedF (cs.take j) u k t && !((decide ((holds cs[j] u k t).2 = 0) && decide ((holds cs[j] u k t).1 ≠ -1)) || decide ((holds cs[j] u k t).2 = 1))) := by
  unfold droppedF
  rw [List.take_add_one, List.getElem?_eq_getElem h, List.all_append]
  simp

/-- the bound of the laws over rows -/
def fewB (n : Nat) : Bool := decide (n ≤ 20 ∨ (90 ≤ n ∧ n ≤ 110) ∨ 200 < n)
theorem few_any (ao : Option Addr) (n cap : Nat) (w : World) (hn : n ≤ cap) (hc : cap ≤ maxLen) : Calls Tryz.prog 5 #[.slice ao n cap] w (Ret w (.bool (fewB n))) := by
  unfold maxLen at hc
  go_enter Tryz.func5, Tryz.ntmps5
  go_wp2
  all_goals
    go_ret
    refine ⟨ret_bool ?_, Below.refl _ _⟩
    simp [fewB]; omega
end Go.Proofs.YtpdecgbfnhaojaaGreat
