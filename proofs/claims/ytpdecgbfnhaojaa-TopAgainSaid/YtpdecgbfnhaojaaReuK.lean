/-
  The walk of 'ReuseNever'.
-/
import Derived.Test.YtpdecgbfnhaojaaReuJ
set_option linter.unusedVariables false
namespace Go.Proofs.Ytpdecgbfnhaojaa
open Go.RowKit Nb Sk Ck Ru Go.Sort

theorem neq_name {a b c a' b' c' : Int} (h : (⟨a, b, c⟩ : Nm) ≠ ⟨a', b', c'⟩) (w : World) : (binOp .neq 31 (.agg #[.int .i64 a, .int .i64 b, .int .i64 c]) (.agg #[.int .i64 a', .int .i64 b', .int .i64 c'])).run Try.prog w = .ok (.bool true) w := by
  by_cases h1 : a = a'
  · by_cases h2 : b = b'
    · by_cases h3 : c = c'
      · subst h1 h2 h3; exact absurd rfl h
      · simp [go_sem, *]
    · simp [go_sem, *]
  · simp [go_sem, *]
theorem next_to {st kd now x1 x2 x3 g : Int} {ao : Option Addr} {n cap : Nat} {w : World} {l : List Us} (h : next l st kd now = (⟨x1, x2, x3⟩, g)) (hs : Sl w 5 cU ao n cap l) :
    Calls Try.prog 16 #[.slice ao n cap, .int .i64 st, .int .i64 kd, .int .i64 now] w (Ret w (.tuple #[.agg #[.int .i64 x1, .int .i64 x2, .int .i64 x3], .int .i64 g])) := by
  have := next_any ao n cap l st kd now w hs
  rwa [h] at this


set_option maxRecDepth 100000 in
set_option maxHeartbeats 8000000 in
theorem never_walk (hso : SortOk) (ao : Option Addr) (n cap : Nat) (l : List Us) (st kd now u k : Int) (co : Option Addr) (cn cc : Nat) (cs : List Clk) (later : Int) (w : World) (hs : Sl w 5 cU ao n cap l) (hc : Sl w 4 cC co cn cc cs) :
    Calls Try.prog 3 #[.slice ao n cap, .int .i64 st, .int .i64 kd, .int .i64 now, .int .i64 u, .int .i64 k, .slice co cn cc, .int .i64 later] w (Ret w (.bool true)) := by
  have HB_w : Below w.heap.size w w := Below.refl _ _
  obtain ⟨t, e, h1⟩ := free_ex u k cs
  obtain ⟨l', y1, y2, y3, f, h2⟩ : ∃ l' y1 y2 y3 f, takeR l st kd now u k cs = (l', ⟨y1, y2, y3⟩, f) := ⟨_, _, _, _, _, rfl⟩
  obtain ⟨x1, x2, x3, g, h3⟩ : ∃ x1 x2 x3 g, next l' st kd later = (⟨x1, x2, x3⟩, g) := ⟨_, _, _, _, rfl⟩
  obtain ⟨fw, hf⟩ : ∃ v, fewB n = v := ⟨_, rfl⟩
  have HSO := Lib.hid hso
  have HS := Lib.hid hs
  have HCS := Lib.hid hc
  have HF := Lib.hid hf
  have H1 := Lib.hid h1
  have HT := Lib.hid h2
  have HN := Lib.hid h3
  clear hs hc hso hf
  by_cases he : e = 0
  case neg =>
    have hne1 : (e != 0) = true := bne_iff_ne.2 he
    clear he h1 h2 h3
    go_enter Try.func3, Try.ntmps3
    go_wp2_with fail
    refine (head_any HSO.out _).mono ?_
    rintro e wa ⟨rfl, hb_wa⟩
    have HB_wa : Below w.heap.size w wa := by first | exact after0 HB_w hb_wa | exact after1 HB_w hb_wa | exact after2 HB_w hb_wa | exact after3 HB_w hb_wa | exact after4 HB_w hb_wa | exact after5 HB_w hb_wa
    replace HS := Lib.hid (show Sl wa _ _ _ _ _ _ by first | exact HS.out.below hb_wa | exact (HS.out.below (grew1 (Below.refl _ _))).below hb_wa | exact (HS.out.below (grew2 (Below.refl _ _))).below hb_wa | exact (HS.out.below (grew3 (Below.refl _ _))).below hb_wa)
    replace HCS := Lib.hid (show Sl wa _ _ _ _ _ _ by first | exact HCS.out.below hb_wa | exact (HCS.out.below (grew1 (Below.refl _ _))).below hb_wa | exact (HCS.out.below (grew2 (Below.refl _ _))).below hb_wa | exact (HCS.out.below (grew3 (Below.refl _ _))).below hb_wa)
    go_wp2_with fail
    refine (free_to H1.out HCS.out).mono ?_
    rintro e wb ⟨rfl, hb_wb⟩
    have HB_wb : Below w.heap.size w wb := by first | exact after0 HB_wa hb_wb | exact after1 HB_wa hb_wb | exact after2 HB_wa hb_wb | exact after3 HB_wa hb_wb | exact after4 HB_wa hb_wb | exact after5 HB_wa hb_wb
    go_wp2_with fail
    all_goals try (exfalso; omega)
    go_ret
    exact ⟨rfl, HB_wb⟩
  subst he
  have HLAW := never_law h1 h2 h3
  have HDR := Lib.hid (fun h4 h5 => dropped_later (later := later) h1 h4 h5)
  clear h1 h2 h3
  cases fw
  · go_enter Try.func3, Try.ntmps3
    go_wp2_with fail
    refine (head_any HSO.out _).mono ?_
    rintro e wa ⟨rfl, hb_wa⟩
    have HB_wa : Below w.heap.size w wa := by first | exact after0 HB_w hb_wa | exact after1 HB_w hb_wa | exact after2 HB_w hb_wa | exact after3 HB_w hb_wa | exact after4 HB_w hb_wa | exact after5 HB_w hb_wa
    replace HS := Lib.hid (show Sl wa _ _ _ _ _ _ by first | exact HS.out.below hb_wa | exact (HS.out.below (grew1 (Below.refl _ _))).below hb_wa | exact (HS.out.below (grew2 (Below.refl _ _))).below hb_wa | exact (HS.out.below (grew3 (Below.refl _ _))).below hb_wa)
    replace HCS := Lib.hid (show Sl wa _ _ _ _ _ _ by first | exact HCS.out.below hb_wa | exact (HCS.out.below (grew1 (Below.refl _ _))).below hb_wa | exact (HCS.out.below (grew2 (Below.refl _ _))).below hb_wa | exact (HCS.out.below (grew3 (Below.refl _ _))).below hb_wa)
    go_wp2_with fail
    refine (free_to H1.out HCS.out).mono ?_
    rintro e wb ⟨rfl, hb_wb⟩
    have HB_wb : Below w.heap.size w wb := by first | exact after0 HB_wa hb_wb | exact after1 HB_wa hb_wb | exact after2 HB_wa hb_wb | exact after3 HB_wa hb_wb | exact after4 HB_wa hb_wb | exact after5 HB_wa hb_wb
    replace HS := Lib.hid (show Sl wb _ _ _ _ _ _ by first | exact HS.out.below hb_wb | exact (HS.out.below (grew1 (Below.refl _ _))).below hb_wb | exact (HS.out.below (grew2 (Below.refl _ _))).below hb_wb | exact (HS.out.below (grew3 (Below.refl _ _))).below hb_wb)
    replace HCS := Lib.hid (show Sl wb _ _ _ _ _ _ by first | exact HCS.out.below hb_wb | exact (HCS.out.below (grew1 (Below.refl _ _))).below hb_wb | exact (HCS.out.below (grew2 (Below.refl _ _))).below hb_wb | exact (HCS.out.below (grew3 (Below.refl _ _))).below hb_wb)
    go_wp2_with fail
    refine (few_to HF.out HS.out).mono ?_
    rintro e wc ⟨rfl, hb_wc⟩
    have HB_wc : Below w.heap.size w wc := by first | exact after0 HB_wb hb_wc | exact after1 HB_wb hb_wc | exact after2 HB_wb hb_wc | exact after3 HB_wb hb_wc | exact after4 HB_wb hb_wc | exact after5 HB_wb hb_wc
    go_wp2_with fail
    all_goals try (exfalso; omega)
    go_ret
    exact ⟨rfl, HB_wc⟩
  go_enter Try.func3, Try.ntmps3
  go_wp2_with fail
  refine (head_any HSO.out _).mono ?_
  rintro e wa ⟨rfl, hb_wa⟩
  have HB_wa : Below w.heap.size w wa := by first | exact after0 HB_w hb_wa | exact after1 HB_w hb_wa | exact after2 HB_w hb_wa | exact after3 HB_w hb_wa | exact after4 HB_w hb_wa | exact after5 HB_w hb_wa
  replace HS := Lib.hid (show Sl wa _ _ _ _ _ _ by first | exact HS.out.below hb_wa | exact (HS.out.below (grew1 (Below.refl _ _))).below hb_wa | exact (HS.out.below (grew2 (Below.refl _ _))).below hb_wa | exact (HS.out.below (grew3 (Below.refl _ _))).below hb_wa)
  replace HCS := Lib.hid (show Sl wa _ _ _ _ _ _ by first | exact HCS.out.below hb_wa | exact (HCS.out.below (grew1 (Below.refl _ _))).below hb_wa | exact (HCS.out.below (grew2 (Below.refl _ _))).below hb_wa | exact (HCS.out.below (grew3 (Below.refl _ _))).below hb_wa)
  go_wp2_with fail
  refine (free_to H1.out HCS.out).mono ?_
  rintro e wb ⟨rfl, hb_wb⟩
  have HB_wb : Below w.heap.size w wb := by first | exact after0 HB_wa hb_wb | exact after1 HB_wa hb_wb | exact after2 HB_wa hb_wb | exact after3 HB_wa hb_wb | exact after4 HB_wa hb_wb | exact after5 HB_wa hb_wb
  replace HS := Lib.hid (show Sl wb _ _ _ _ _ _ by first | exact HS.out.below hb_wb | exact (HS.out.below (grew1 (Below.refl _ _))).below hb_wb | exact (HS.out.below (grew2 (Below.refl _ _))).below hb_wb | exact (HS.out.below (grew3 (Below.refl _ _))).below hb_wb)
  replace HCS := Lib.hid (show Sl wb _ _ _ _ _ _ by first | exact HCS.out.below hb_wb | exact (HCS.out.below (grew1 (Below.refl _ _))).below hb_wb | exact (HCS.out.below (grew2 (Below.refl _ _))).below hb_wb | exact (HCS.out.below (grew3 (Below.refl _ _))).below hb_wb)
  go_wp2_with fail
  refine (few_to HF.out HS.out).mono ?_
  rintro e wc ⟨rfl, hb_wc⟩
  have HB_wc : Below w.heap.size w wc := by first | exact after0 HB_wb hb_wc | exact after1 HB_wb hb_wc | exact after2 HB_wb hb_wc | exact after3 HB_wb hb_wc | exact after4 HB_wb hb_wc | exact after5 HB_wb hb_wc
  replace HS := Lib.hid (show Sl wc _ _ _ _ _ _ by first | exact HS.out.below hb_wc | exact (HS.out.below (grew1 (Below.refl _ _))).below hb_wc | exact (HS.out.below (grew2 (Below.refl _ _))).below hb_wc | exact (HS.out.below (grew3 (Below.refl _ _))).below hb_wc)
  replace HCS := Lib.hid (show Sl wc _ _ _ _ _ _ by first | exact HCS.out.below hb_wc | exact (HCS.out.below (grew1 (Below.refl _ _))).below hb_wc | exact (HCS.out.below (grew2 (Below.refl _ _))).below hb_wc | exact (HCS.out.below (grew3 (Below.refl _ _))).below hb_wc)
  by_cases hA : t ≤ later ∧ later ≤ 10000000
  · obtain ⟨hA1, hA2⟩ := hA
    have HDT := Lib.hid (HDR.out hA1 hA2)
    clear HDR
    go_wp2_with fail
    refine (dropped_to HDT.out HCS.out).mono ?_
    rintro e wd ⟨rfl, hb_wd⟩
    have HB_wd : Below w.heap.size w wd := by first | exact after0 HB_wc hb_wd | exact after1 HB_wc hb_wd | exact after2 HB_wc hb_wd | exact after3 HB_wc hb_wd | exact after4 HB_wc hb_wd | exact after5 HB_wc hb_wd
    replace HS := Lib.hid (show Sl wd _ _ _ _ _ _ by first | exact HS.out.below hb_wd | exact (HS.out.below (grew1 (Below.refl _ _))).below hb_wd | exact (HS.out.below (grew2 (Below.refl _ _))).below hb_wd | exact (HS.out.below (grew3 (Below.refl _ _))).below hb_wd)
    replace HCS := Lib.hid (show Sl wd _ _ _ _ _ _ by first | exact HCS.out.below hb_wd | exact (HCS.out.below (grew1 (Below.refl _ _))).below hb_wd | exact (HCS.out.below (grew2 (Below.refl _ _))).below hb_wd | exact (HCS.out.below (grew3 (Below.refl _ _))).below hb_wd)
    go_wp2_with fail
    refine (take_to HT.out HS.out HCS.out).mono ?_
    rintro e we ⟨ao2, n2, cap2, rfl, hl2, hb_we⟩
    have HB_we : Below w.heap.size w we := after0 HB_wd hb_we
    have HL := Lib.hid hl2
    replace HCS := Lib.hid (HCS.out.below hb_we)
    clear hl2 hb_we
    obtain ⟨W1, hW1, hB1, hZ1, hb1⟩ := boxes1 we [.int .i64 y1, .int .i64 y2, .int .i64 y3] 31
    have H_n := Lib.hid hb1
    have HB_W1 : Below w.heap.size w W1 := after0 HB_we hB1
    replace HL := Lib.hid (HL.out.below hB1)
    replace HCS := Lib.hid (HCS.out.below hB1)
    clear hb1 hZ1 hB1
    rcases HLAW with hne | ⟨rfl, l0, b, hle', hL⟩
    · have hne1 : (f != 0) = true := bne_iff_ne.2 hne
      clear hne
      go_wp2_with fail
      all_goals try (exfalso; omega)
      go_ret
      exact ⟨rfl, HB_W1⟩
    have hcap := HL.out.max
    have hle := HL.out.le
    have hlen := HL.out.len
    unfold maxLen at hcap
    obtain ⟨m, hm⟩ : ∃ m, n2 = m + 1 := ⟨l0.length, by rw [← hlen, hle']; simp⟩
    have HM := Lib.hid (show l'.length = m + 1 from by rw [hlen, hm])
    have HLE := Lib.hid (show l'[m]? = some b from by
      have : m = l0.length := by have h := HM.out; rw [hle'] at h; simp at h; omega
      rw [hle', this]; simp)
    rw [hlen] at hle
    subst hm
    clear hlen hle'
    go_wp2_with fail
    refine (next_to HN.out HL.out).mono ?_
    rintro e wf ⟨rfl, hb_wf⟩
    have HB_wf := after0 HB_W1 hb_wf
    replace HL := Lib.hid (HL.out.below hb_wf)
    replace HCS := Lib.hid (HCS.out.below hb_wf)
    replace H_n := Lib.hid (H_n.out.below hb_wf)
    clear hW1 hb_wf
    obtain ⟨W2, hW2, hB2, hZ2, hb2⟩ := boxes1 wf [.int .i64 x1, .int .i64 x2, .int .i64 x3] 31
    have H_x := Lib.hid hb2
    have HB_W2 : Below w.heap.size w W2 := after0 HB_wf hB2
    replace HL := Lib.hid (HL.out.below hB2)
    replace HCS := Lib.hid (HCS.out.below hB2)
    replace H_n := Lib.hid (H_n.out.below hB2)
    clear hb2 hZ2 hB2
    obtain ⟨q_n_0, q_n_1, q_n_2⟩ := H_n.out.c3
    obtain ⟨q_x_0, q_x_1, q_x_2⟩ := H_x.out.c3
    rcases hL with hne | ⟨rfl, hne⟩ | ⟨rfl, hxn, hL1, hL2, hL3⟩
    · have hne1 : (g != 0) = true := bne_iff_ne.2 hne
      clear hne
      go_wp2_with fail
      all_goals try (exfalso; omega)
      go_ret
      exact ⟨rfl, HB_W2⟩
    · have hne2 := neq_name hne
      clear hne
      go_wp2_with fail
      all_goals try (exfalso; omega)
      go_ret
      exact ⟨rfl, HB_W2⟩
    · obtain ⟨rfl, rfl, rfl⟩ : x1 = y1 ∧ x2 = y2 ∧ x3 = y3 := by simpa using hxn
      obtain ⟨bb, off, rfl, hbb, hrow⟩ := HL.out.get (i := m) (by rw [HM.out]; omega)
      have hR := hrow m (by rw [HM.out]; omega)
      rw [show l'[m]'(by rw [HM.out]; omega) = b from by have h := HLE.out; rw [List.getElem?_eq_getElem (by rw [HM.out]; omega)] at h; exact Option.some.inj h] at hR
      obtain ⟨e_0, e_1, e_2, e_3, e_4⟩ := hR.c5
      clear hrow hR hxn
      go_wp2_with fail
      refine (dropped_to HDT.out HCS.out).mono ?_
      rintro e wg ⟨rfl, hb_wg⟩
      have HB_wg := after0 HB_W2 hb_wg
      clear e_0 e_1 e_2 e_3 e_4
      go_wp2_with fail
      all_goals try (exfalso; omega)
      go_ret
      exact ⟨rfl, HB_wg⟩
  · have hB : later < t ∨ (t ≤ later ∧ 10000000 < later) := by omega
    clear hA HDR
    rcases hB with hB | ⟨hB1, hB2⟩
    ·
      go_wp2_with fail
      refine (take_to HT.out HS.out HCS.out).mono ?_
      rintro e we ⟨ao2, n2, cap2, rfl, hl2, hb_we⟩
      have HB_we : Below w.heap.size w we := after0 HB_wc hb_we
      have HL := Lib.hid hl2
      replace HCS := Lib.hid (HCS.out.below hb_we)
      clear hl2 hb_we
      obtain ⟨W1, hW1, hB1, hZ1, hb1⟩ := boxes1 we [.int .i64 y1, .int .i64 y2, .int .i64 y3] 31
      have H_n := Lib.hid hb1
      have HB_W1 : Below w.heap.size w W1 := after0 HB_we hB1
      replace HL := Lib.hid (HL.out.below hB1)
      replace HCS := Lib.hid (HCS.out.below hB1)
      clear hb1 hZ1 hB1
      rcases HLAW with hne | ⟨rfl, l0, b, hle', hL⟩
      · have hne1 : (f != 0) = true := bne_iff_ne.2 hne
        clear hne
        go_wp2_with fail
        all_goals try (exfalso; omega)
        go_ret
        exact ⟨rfl, HB_W1⟩
      have hcap := HL.out.max
      have hle := HL.out.le
      have hlen := HL.out.len
      unfold maxLen at hcap
      obtain ⟨m, hm⟩ : ∃ m, n2 = m + 1 := ⟨l0.length, by rw [← hlen, hle']; simp⟩
      have HM := Lib.hid (show l'.length = m + 1 from by rw [hlen, hm])
      have HLE := Lib.hid (show l'[m]? = some b from by
        have : m = l0.length := by have h := HM.out; rw [hle'] at h; simp at h; omega
        rw [hle', this]; simp)
      rw [hlen] at hle
      subst hm
      clear hlen hle'
      go_wp2_with fail
      refine (next_to HN.out HL.out).mono ?_
      rintro e wf ⟨rfl, hb_wf⟩
      have HB_wf := after0 HB_W1 hb_wf
      replace HL := Lib.hid (HL.out.below hb_wf)
      replace HCS := Lib.hid (HCS.out.below hb_wf)
      replace H_n := Lib.hid (H_n.out.below hb_wf)
      clear hW1 hb_wf
      obtain ⟨W2, hW2, hB2, hZ2, hb2⟩ := boxes1 wf [.int .i64 x1, .int .i64 x2, .int .i64 x3] 31
      have H_x := Lib.hid hb2
      have HB_W2 : Below w.heap.size w W2 := after0 HB_wf hB2
      replace HL := Lib.hid (HL.out.below hB2)
      replace HCS := Lib.hid (HCS.out.below hB2)
      replace H_n := Lib.hid (H_n.out.below hB2)
      clear hb2 hZ2 hB2
      obtain ⟨q_n_0, q_n_1, q_n_2⟩ := H_n.out.c3
      obtain ⟨q_x_0, q_x_1, q_x_2⟩ := H_x.out.c3
      rcases hL with hne | ⟨rfl, hne⟩ | ⟨rfl, hxn, hL1, hL2, hL3⟩
      · have hne1 : (g != 0) = true := bne_iff_ne.2 hne
        clear hne
        go_wp2_with fail
        all_goals try (exfalso; omega)
        go_ret
        exact ⟨rfl, HB_W2⟩
      · have hne2 := neq_name hne
        clear hne
        go_wp2_with fail
        all_goals try (exfalso; omega)
        go_ret
        exact ⟨rfl, HB_W2⟩
      · exfalso; omega
    ·
      go_wp2_with fail
      refine (take_to HT.out HS.out HCS.out).mono ?_
      rintro e we ⟨ao2, n2, cap2, rfl, hl2, hb_we⟩
      have HB_we : Below w.heap.size w we := after0 HB_wc hb_we
      have HL := Lib.hid hl2
      replace HCS := Lib.hid (HCS.out.below hb_we)
      clear hl2 hb_we
      obtain ⟨W1, hW1, hB1, hZ1, hb1⟩ := boxes1 we [.int .i64 y1, .int .i64 y2, .int .i64 y3] 31
      have H_n := Lib.hid hb1
      have HB_W1 : Below w.heap.size w W1 := after0 HB_we hB1
      replace HL := Lib.hid (HL.out.below hB1)
      replace HCS := Lib.hid (HCS.out.below hB1)
      clear hb1 hZ1 hB1
      rcases HLAW with hne | ⟨rfl, l0, b, hle', hL⟩
      · have hne1 : (f != 0) = true := bne_iff_ne.2 hne
        clear hne
        go_wp2_with fail
        all_goals try (exfalso; omega)
        go_ret
        exact ⟨rfl, HB_W1⟩
      have hcap := HL.out.max
      have hle := HL.out.le
      have hlen := HL.out.len
      unfold maxLen at hcap
      obtain ⟨m, hm⟩ : ∃ m, n2 = m + 1 := ⟨l0.length, by rw [← hlen, hle']; simp⟩
      have HM := Lib.hid (show l'.length = m + 1 from by rw [hlen, hm])
      have HLE := Lib.hid (show l'[m]? = some b from by
        have : m = l0.length := by have h := HM.out; rw [hle'] at h; simp at h; omega
        rw [hle', this]; simp)
      rw [hlen] at hle
      subst hm
      clear hlen hle'
      go_wp2_with fail
      refine (next_to HN.out HL.out).mono ?_
      rintro e wf ⟨rfl, hb_wf⟩
      have HB_wf := after0 HB_W1 hb_wf
      replace HL := Lib.hid (HL.out.below hb_wf)
      replace HCS := Lib.hid (HCS.out.below hb_wf)
      replace H_n := Lib.hid (H_n.out.below hb_wf)
      clear hW1 hb_wf
      obtain ⟨W2, hW2, hB2, hZ2, hb2⟩ := boxes1 wf [.int .i64 x1, .int .i64 x2, .int .i64 x3] 31
      have H_x := Lib.hid hb2
      have HB_W2 : Below w.heap.size w W2 := after0 HB_wf hB2
      replace HL := Lib.hid (HL.out.below hB2)
      replace HCS := Lib.hid (HCS.out.below hB2)
      replace H_n := Lib.hid (H_n.out.below hB2)
      clear hb2 hZ2 hB2
      obtain ⟨q_n_0, q_n_1, q_n_2⟩ := H_n.out.c3
      obtain ⟨q_x_0, q_x_1, q_x_2⟩ := H_x.out.c3
      rcases hL with hne | ⟨rfl, hne⟩ | ⟨rfl, hxn, hL1, hL2, hL3⟩
      · have hne1 : (g != 0) = true := bne_iff_ne.2 hne
        clear hne
        go_wp2_with fail
        all_goals try (exfalso; omega)
        go_ret
        exact ⟨rfl, HB_W2⟩
      · have hne2 := neq_name hne
        clear hne
        go_wp2_with fail
        all_goals try (exfalso; omega)
        go_ret
        exact ⟨rfl, HB_W2⟩
      · exfalso; omega
end Go.Proofs.Ytpdecgbfnhaojaa
