/-
  The walks of 'ReuseBetter', 'ReuseWaiting', 'ReuseMeant'.
-/
import Derived.Test.YtpdecgbfnhaojaaReuI
import Derived.Test.YtpdecgbfnhaojaaClkD
set_option linter.unusedVariables false
namespace Go.Proofs.Ytpdecgbfnhaojaa
open Go.RowKit Nb Sk Ck Ru Go.Sort

section
variable {st kd now t n1 n2 n3 x y q r : Int} {ao : Option Addr} {n cap : Nat} {w : World}
theorem room_to {l : List Us} (h : room l st kd now = (x, y)) (hs : Sl w 5 cU ao n cap l) : Calls Try.prog 19 #[.slice ao n cap, .int .i64 st, .int .i64 kd, .int .i64 now] w (Ret w (.tuple #[.int .i64 x, .int .i64 y])) := by
  have := room_any ao n cap l st kd now w hs
  rwa [h] at this
theorem who_to {l : List Us} (h : who l ⟨n1, n2, n3⟩ t = (x, y)) (hs : Sl w 5 cU ao n cap l) : Calls Try.prog 20 #[.slice ao n cap, .agg #[.int .i64 n1, .int .i64 n2, .int .i64 n3], .int .i64 t] w (Ret w (.tuple #[.int .i64 x, .int .i64 y])) := by
  have := who_any ao n cap l n1 n2 n3 t w hs
  rwa [h] at this
theorem true_to {c : Clk} (h : true_ c r = ((x, y), q)) : Calls Try.prog 21 #[eC c, .int .i64 r] w (Ret w (.tuple #[.agg #[.int .i64 x, .int .i64 y], .int .i64 q])) := by
  have := true_any c r w
  rwa [h] at this
theorem few_to {v : Bool} {l : List Us} (h : fewB n = v) (hs : Sl w 5 cU ao n cap l) : Calls Try.prog 13 #[.slice ao n cap] w (Ret w (.bool v)) := by
  have := few_any ao n cap w (by have := hs.len; have := hs.le; omega) hs.max
  rwa [h] at this
theorem correct_to {a b d e lo hi k0 k1 k2 k3 : Int} (h : correct ⟨a, b, d, e⟩ r lo hi = (⟨k0, k1, k2, k3⟩, q)) : Calls Try.prog 23 #[.agg #[.int .i64 a, .int .i64 b, .int .i64 d, .int .i64 e], .int .i64 r, .agg #[.int .i64 lo, .int .i64 hi]] w
    (Ret w (.tuple #[.agg #[.int .i64 k0, .int .i64 k1, .int .i64 k2, .int .i64 k3], .int .i64 q])) := by
  have := correct_any a b d e r lo hi w
  rwa [h] at this
end
theorem room_ex (l : List Us) (st kd t : Int) : ∃ x e, room l st kd t = (x, e) := ⟨_, _, rfl⟩

set_option maxRecDepth 100000 in
set_option maxHeartbeats 4000000 in
theorem better_walk (hso : SortOk) (c0 c1 c2 c3 r lo hi u kp : Int) (w : World) :
    Calls Try.prog 9 #[.agg #[.int .i64 c0, .int .i64 c1, .int .i64 c2, .int .i64 c3], .int .i64 r, .agg #[.int .i64 lo, .int .i64 hi], .int .i64 u, .int .i64 kp] w (Ret w (.bool true)) := by
  obtain ⟨k0, k1, k2, k3, e, h1⟩ : ∃ k0 k1 k2 k3 e, correct ⟨c0, c1, c2, c3⟩ r lo hi = (⟨k0, k1, k2, k3⟩, e) := ⟨_, _, _, _, _, rfl⟩
  obtain ⟨t, f, h2⟩ := free_ex u kp [⟨c0, c1, c2, c3⟩]
  obtain ⟨s, g, h3⟩ := free_ex u kp [⟨k0, k1, k2, k3⟩]
  have HLAW := better_law h1 h2 h3
  obtain ⟨W0, hW0, HB_W0, hZ, hn, hm⟩ := boxes2 w [.int .i64 c0, .int .i64 c1, .int .i64 c2, .int .i64 c3] [.int .i64 lo, .int .i64 hi] 44 42
  have H_c := Lib.hid hn
  have H_s := Lib.hid hm
  have HSO := Lib.hid hso
  have H1 := Lib.hid h1
  have H2 := Lib.hid h2
  have H3 := Lib.hid h3
  clear hn hm hZ hso h1 h2 h3
  rcases HLAW with hne | ⟨rfl, hne⟩ | ⟨rfl, rfl, rfl, hle⟩
  all_goals
    try (first | (have hne1 : (e != 0) = true := bne_iff_ne.2 hne) | (have hne1 : (f != 0) = true := bne_iff_ne.2 hne))
    try clear hne
    obtain ⟨q_c_0, q_c_1, q_c_2, q_c_3⟩ := H_c.out.c4
    obtain ⟨q_s_0, q_s_1⟩ := H_s.out.c2
    go_enter Try.func9, Try.ntmps9
    go_wp2_with fail
    refine (head_any HSO.out _).mono ?_
    rintro e wa ⟨rfl, hb_wa⟩
    have HB_wa : Below w.heap.size w wa := by first | exact after0 HB_W0 hb_wa | exact after1 HB_W0 hb_wa | exact after2 HB_W0 hb_wa | exact after3 HB_W0 hb_wa | exact after4 HB_W0 hb_wa | exact after5 HB_W0 hb_wa
    try clear q_c_0 q_c_1 q_c_2 q_c_3
    have H_c := Lib.hid (Box.below (by first | exact H_c.out | exact H_c.out.alloc _ | exact (H_c.out.alloc _).alloc _ | exact ((H_c.out.alloc _).alloc _).alloc _) hb_wa)
    obtain ⟨q_c_0, q_c_1, q_c_2, q_c_3⟩ := H_c.out.c4
    try clear q_s_0 q_s_1
    have H_s := Lib.hid (Box.below (by first | exact H_s.out | exact H_s.out.alloc _ | exact (H_s.out.alloc _).alloc _ | exact ((H_s.out.alloc _).alloc _).alloc _) hb_wa)
    obtain ⟨q_s_0, q_s_1⟩ := H_s.out.c2
    clear hW0
    go_wp2_with fail
    refine (correct_to H1.out).mono ?_
    rintro e wb ⟨rfl, hb_wb⟩
    have HB_wb : Below w.heap.size w wb := by first | exact after0 HB_wa hb_wb | exact after1 HB_wa hb_wb | exact after2 HB_wa hb_wb | exact after3 HB_wa hb_wb | exact after4 HB_wa hb_wb | exact after5 HB_wa hb_wb
    try clear q_c_0 q_c_1 q_c_2 q_c_3
    have H_c := Lib.hid (Box.below (by first | exact H_c.out | exact H_c.out.alloc _ | exact (H_c.out.alloc _).alloc _ | exact ((H_c.out.alloc _).alloc _).alloc _) hb_wb)
    obtain ⟨q_c_0, q_c_1, q_c_2, q_c_3⟩ := H_c.out.c4
    clear q_c_0 q_c_1 q_c_2 q_c_3 q_s_0 q_s_1
    obtain ⟨W1, hW1, hB1, hZ1, hb1⟩ := boxes1 wb [.int .i64 k0, .int .i64 k1, .int .i64 k2, .int .i64 k3] 44
    have H_k := Lib.hid hb1
    have HB_W1 : Below w.heap.size w W1 := after0 HB_wb hB1
    replace H_c := Lib.hid (H_c.out.below hB1)
    clear hb1 hZ1 hB1
    obtain ⟨q_c_0, q_c_1, q_c_2, q_c_3⟩ := H_c.out.c4
    go_wp2_with fail
    refine (free_to H2.out (ao := some ⟨W1.heap.size, 0, none⟩) (n := 1) (cap := 1) (Sl.one (x := (⟨c0, c1, c2, c3⟩ : Clk)) (fun _ => rfl) (Box.new W1 (cC ⟨c0, c1, c2, c3⟩) 44))).mono ?_
    rintro e wc ⟨rfl, hb_wc⟩
    have HB_wc := after1 HB_W1 hb_wc
    have hb2 : Below W1.heap.size W1 wc := (grew1 (Below.refl _ _)).trans (hb_wc.mono (by simp))
    replace H_k := Lib.hid (H_k.out.below hb2)
    clear hW1 hb_wc hb2 q_c_0 q_c_1 q_c_2 q_c_3
    obtain ⟨q_k_0, q_k_1, q_k_2, q_k_3⟩ := H_k.out.c4
    go_wp2_with fail
    all_goals try (exfalso; omega)
    try (go_ret; exact ⟨rfl, HB_wc⟩)
  refine (free_to H3.out (ao := some ⟨wc.heap.size, 0, none⟩) (n := 1) (cap := 1) (Sl.one (x := (⟨k0, k1, k2, k3⟩ : Clk)) (fun _ => rfl) (Box.new wc (cC ⟨k0, k1, k2, k3⟩) 44))).mono ?_
  rintro e wd ⟨rfl, hb_wd⟩
  have HB_wd := after1 HB_wc hb_wd
  clear q_k_0 q_k_1 q_k_2 q_k_3
  go_wp2_with fail
  all_goals try (exfalso; omega)
  go_ret
  exact ⟨rfl, HB_wd⟩

set_option maxRecDepth 100000 in
set_option maxHeartbeats 4000000 in
theorem waiting_walk (hso : SortOk) (ao : Option Addr) (n cap : Nat) (l : List Us) (st kd now between : Int) (w : World) (hs : Sl w 5 cU ao n cap l) :
    Calls Try.prog 7 #[.slice ao n cap, .int .i64 st, .int .i64 kd, .int .i64 now, .int .i64 between] w (Ret w (.bool true)) := by
  have HB_w : Below w.heap.size w w := Below.refl _ _
  obtain ⟨wt, e, h1⟩ : ∃ x y, waitR l st kd now = (x, y) := ⟨_, _, rfl⟩
  obtain ⟨rn, f, h2⟩ := room_ex l st kd now
  obtain ⟨m, g, h3⟩ := room_ex l st kd wt
  obtain ⟨q, h, h4⟩ := room_ex l st kd between
  have HLAW := waiting_law h1 h2 h3 h4
  obtain ⟨fw, hf⟩ : ∃ v, fewB n = v := ⟨_, rfl⟩
  have HSO := Lib.hid hso
  have HS := Lib.hid hs
  have H1 := Lib.hid h1
  have H2 := Lib.hid h2
  have H3 := Lib.hid h3
  have H4 := Lib.hid h4
  have HF := Lib.hid hf
  clear hso hs h1 h2 h3 h4 hf
  cases fw
  · go_enter Try.func7, Try.ntmps7
    go_wp2_with fail
    refine (head_any HSO.out _).mono ?_
    rintro e wa ⟨rfl, hb_wa⟩
    have HB_wa : Below w.heap.size w wa := by first | exact after0 HB_w hb_wa | exact after1 HB_w hb_wa | exact after2 HB_w hb_wa | exact after3 HB_w hb_wa | exact after4 HB_w hb_wa | exact after5 HB_w hb_wa
    replace HS := Lib.hid (show Sl wa _ _ _ _ _ _ by first | exact HS.out.below hb_wa | exact (HS.out.below (grew1 (Below.refl _ _))).below hb_wa | exact (HS.out.below (grew2 (Below.refl _ _))).below hb_wa | exact (HS.out.below (grew3 (Below.refl _ _))).below hb_wa)
    go_wp2_with fail
    refine (few_to HF.out HS.out).mono ?_
    rintro e wb ⟨rfl, hb_wb⟩
    have HB_wb : Below w.heap.size w wb := by first | exact after0 HB_wa hb_wb | exact after1 HB_wa hb_wb | exact after2 HB_wa hb_wb | exact after3 HB_wa hb_wb | exact after4 HB_wa hb_wb | exact after5 HB_wa hb_wb
    replace HS := Lib.hid (show Sl wb _ _ _ _ _ _ by first | exact HS.out.below hb_wb | exact (HS.out.below (grew1 (Below.refl _ _))).below hb_wb | exact (HS.out.below (grew2 (Below.refl _ _))).below hb_wb | exact (HS.out.below (grew3 (Below.refl _ _))).below hb_wb)
    go_wp2_with fail
    all_goals try (exfalso; omega)
    go_ret
    exact ⟨rfl, HB_wb⟩
  rcases HLAW with ⟨rfl, hne⟩ | ⟨rfl, rfl, rfl, hm, hcase, hbt⟩
  · have hne1 : (e != 0) = true := bne_iff_ne.2 hne
    clear hne
    go_enter Try.func7, Try.ntmps7
    go_wp2_with fail
    refine (head_any HSO.out _).mono ?_
    rintro e wa ⟨rfl, hb_wa⟩
    have HB_wa : Below w.heap.size w wa := by first | exact after0 HB_w hb_wa | exact after1 HB_w hb_wa | exact after2 HB_w hb_wa | exact after3 HB_w hb_wa | exact after4 HB_w hb_wa | exact after5 HB_w hb_wa
    replace HS := Lib.hid (show Sl wa _ _ _ _ _ _ by first | exact HS.out.below hb_wa | exact (HS.out.below (grew1 (Below.refl _ _))).below hb_wa | exact (HS.out.below (grew2 (Below.refl _ _))).below hb_wa | exact (HS.out.below (grew3 (Below.refl _ _))).below hb_wa)
    go_wp2_with fail
    refine (few_to HF.out HS.out).mono ?_
    rintro e wb ⟨rfl, hb_wb⟩
    have HB_wb : Below w.heap.size w wb := by first | exact after0 HB_wa hb_wb | exact after1 HB_wa hb_wb | exact after2 HB_wa hb_wb | exact after3 HB_wa hb_wb | exact after4 HB_wa hb_wb | exact after5 HB_wa hb_wb
    replace HS := Lib.hid (show Sl wb _ _ _ _ _ _ by first | exact HS.out.below hb_wb | exact (HS.out.below (grew1 (Below.refl _ _))).below hb_wb | exact (HS.out.below (grew2 (Below.refl _ _))).below hb_wb | exact (HS.out.below (grew3 (Below.refl _ _))).below hb_wb)
    go_wp2_with fail
    refine (wait_to HSO.out H1.out HS.out).mono ?_
    rintro e wc ⟨rfl, hb_wc⟩
    have HB_wc : Below w.heap.size w wc := by first | exact after0 HB_wb hb_wc | exact after1 HB_wb hb_wc | exact after2 HB_wb hb_wc | exact after3 HB_wb hb_wc | exact after4 HB_wb hb_wc | exact after5 HB_wb hb_wc
    replace HS := Lib.hid (show Sl wc _ _ _ _ _ _ by first | exact HS.out.below hb_wc | exact (HS.out.below (grew1 (Below.refl _ _))).below hb_wc | exact (HS.out.below (grew2 (Below.refl _ _))).below hb_wc | exact (HS.out.below (grew3 (Below.refl _ _))).below hb_wc)
    go_wp2_with fail
    refine (room_to H2.out HS.out).mono ?_
    rintro e wd ⟨rfl, hb_wd⟩
    have HB_wd : Below w.heap.size w wd := by first | exact after0 HB_wc hb_wd | exact after1 HB_wc hb_wd | exact after2 HB_wc hb_wd | exact after3 HB_wc hb_wd | exact after4 HB_wc hb_wd | exact after5 HB_wc hb_wd
    replace HS := Lib.hid (show Sl wd _ _ _ _ _ _ by first | exact HS.out.below hb_wd | exact (HS.out.below (grew1 (Below.refl _ _))).below hb_wd | exact (HS.out.below (grew2 (Below.refl _ _))).below hb_wd | exact (HS.out.below (grew3 (Below.refl _ _))).below hb_wd)
    go_wp2_with fail
    all_goals try (exfalso; omega)
    go_ret
    exact ⟨rfl, HB_wd⟩
  rcases hcase with ⟨rfl, hn⟩ | ⟨hlt, rfl⟩
  all_goals
    try (have hww : (wt == now) = false := beq_eq_false_iff_ne.2 (by omega))
    rcases hbt with h5 | ⟨h5, h6⟩ | ⟨h5, h6, rfl, rfl⟩
    all_goals
      go_enter Try.func7, Try.ntmps7
      go_wp2_with fail
      refine (head_any HSO.out _).mono ?_
      rintro e wa ⟨rfl, hb_wa⟩
      have HB_wa : Below w.heap.size w wa := by first | exact after0 HB_w hb_wa | exact after1 HB_w hb_wa | exact after2 HB_w hb_wa | exact after3 HB_w hb_wa | exact after4 HB_w hb_wa | exact after5 HB_w hb_wa
      replace HS := Lib.hid (show Sl wa _ _ _ _ _ _ by first | exact HS.out.below hb_wa | exact (HS.out.below (grew1 (Below.refl _ _))).below hb_wa | exact (HS.out.below (grew2 (Below.refl _ _))).below hb_wa | exact (HS.out.below (grew3 (Below.refl _ _))).below hb_wa)
      go_wp2_with fail
      refine (few_to HF.out HS.out).mono ?_
      rintro e wb ⟨rfl, hb_wb⟩
      have HB_wb : Below w.heap.size w wb := by first | exact after0 HB_wa hb_wb | exact after1 HB_wa hb_wb | exact after2 HB_wa hb_wb | exact after3 HB_wa hb_wb | exact after4 HB_wa hb_wb | exact after5 HB_wa hb_wb
      replace HS := Lib.hid (show Sl wb _ _ _ _ _ _ by first | exact HS.out.below hb_wb | exact (HS.out.below (grew1 (Below.refl _ _))).below hb_wb | exact (HS.out.below (grew2 (Below.refl _ _))).below hb_wb | exact (HS.out.below (grew3 (Below.refl _ _))).below hb_wb)
      go_wp2_with fail
      refine (wait_to HSO.out H1.out HS.out).mono ?_
      rintro e wc ⟨rfl, hb_wc⟩
      have HB_wc : Below w.heap.size w wc := by first | exact after0 HB_wb hb_wc | exact after1 HB_wb hb_wc | exact after2 HB_wb hb_wc | exact after3 HB_wb hb_wc | exact after4 HB_wb hb_wc | exact after5 HB_wb hb_wc
      replace HS := Lib.hid (show Sl wc _ _ _ _ _ _ by first | exact HS.out.below hb_wc | exact (HS.out.below (grew1 (Below.refl _ _))).below hb_wc | exact (HS.out.below (grew2 (Below.refl _ _))).below hb_wc | exact (HS.out.below (grew3 (Below.refl _ _))).below hb_wc)
      go_wp2_with fail
      refine (room_to H2.out HS.out).mono ?_
      rintro e wd ⟨rfl, hb_wd⟩
      have HB_wd : Below w.heap.size w wd := by first | exact after0 HB_wc hb_wd | exact after1 HB_wc hb_wd | exact after2 HB_wc hb_wd | exact after3 HB_wc hb_wd | exact after4 HB_wc hb_wd | exact after5 HB_wc hb_wd
      replace HS := Lib.hid (show Sl wd _ _ _ _ _ _ by first | exact HS.out.below hb_wd | exact (HS.out.below (grew1 (Below.refl _ _))).below hb_wd | exact (HS.out.below (grew2 (Below.refl _ _))).below hb_wd | exact (HS.out.below (grew3 (Below.refl _ _))).below hb_wd)
      go_wp2_with fail
      refine (room_to H3.out HS.out).mono ?_
      rintro e we ⟨rfl, hb_we⟩
      have HB_we : Below w.heap.size w we := by first | exact after0 HB_wd hb_we | exact after1 HB_wd hb_we | exact after2 HB_wd hb_we | exact after3 HB_wd hb_we | exact after4 HB_wd hb_we | exact after5 HB_wd hb_we
      replace HS := Lib.hid (show Sl we _ _ _ _ _ _ by first | exact HS.out.below hb_we | exact (HS.out.below (grew1 (Below.refl _ _))).below hb_we | exact (HS.out.below (grew2 (Below.refl _ _))).below hb_we | exact (HS.out.below (grew3 (Below.refl _ _))).below hb_we)
      go_wp2_with fail
      all_goals try (exfalso; omega)
      try (go_ret; exact ⟨rfl, HB_we⟩)
    all_goals
      refine (room_to H4.out HS.out).mono ?_
      rintro e wf ⟨rfl, hb_wf⟩
      have HB_wf := after0 HB_we hb_wf
      go_wp2_with fail
      all_goals try (exfalso; omega)
      go_ret
      exact ⟨rfl, HB_wf⟩

set_option maxRecDepth 100000 in
set_option maxHeartbeats 4000000 in
theorem meant_walk (hso : SortOk) (ao : Option Addr) (n cap : Nat) (l : List Us) (n1 n2 n3 c0 c1 c2 c3 r time : Int) (w : World) (hs : Sl w 5 cU ao n cap l) :
    Calls Try.prog 8 #[.slice ao n cap, .agg #[.int .i64 n1, .int .i64 n2, .int .i64 n3], .agg #[.int .i64 c0, .int .i64 c1, .int .i64 c2, .int .i64 c3], .int .i64 r, .int .i64 time] w (Ret w (.bool true)) := by
  obtain ⟨k, e, h1⟩ : ∃ x y, who l ⟨n1, n2, n3⟩ time = (x, y) := ⟨_, _, rfl⟩
  obtain ⟨lo, hi, f, h2⟩ : ∃ x y q, true_ ⟨c0, c1, c2, c3⟩ r = ((x, y), q) := ⟨_, _, _, rfl⟩
  obtain ⟨i, g, h3⟩ : ∃ x y, oldR l ⟨n1, n2, n3⟩ ⟨c0, c1, c2, c3⟩ r = (x, y) := ⟨_, _, rfl⟩
  have HLAW := meant_law h1 h2 h3
  obtain ⟨fw, hf⟩ : ∃ v, fewB n = v := ⟨_, rfl⟩
  obtain ⟨W0, hW0, HB_W0, hZ, hn, hm⟩ := boxes2 w [.int .i64 n1, .int .i64 n2, .int .i64 n3] [.int .i64 c0, .int .i64 c1, .int .i64 c2, .int .i64 c3] 31 44
  have H_n := Lib.hid hn
  have H_c := Lib.hid hm
  have HSO := Lib.hid hso
  have HS := Lib.hid (hs.below HB_W0)
  have H1 := Lib.hid h1
  have H2 := Lib.hid h2
  have H3 := Lib.hid h3
  have HF := Lib.hid hf
  clear hso hs h1 h2 h3 hf hn hm hZ
  cases fw
  ·
    obtain ⟨q_n_0, q_n_1, q_n_2⟩ := H_n.out.c3
    obtain ⟨q_c_0, q_c_1, q_c_2, q_c_3⟩ := H_c.out.c4
    go_enter Try.func8, Try.ntmps8
    go_wp2_with fail
    refine (head_any HSO.out _).mono ?_
    rintro e wa ⟨rfl, hb_wa⟩
    have HB_wa : Below w.heap.size w wa := by first | exact after0 HB_W0 hb_wa | exact after1 HB_W0 hb_wa | exact after2 HB_W0 hb_wa | exact after3 HB_W0 hb_wa | exact after4 HB_W0 hb_wa | exact after5 HB_W0 hb_wa
    replace HS := Lib.hid (show Sl wa _ _ _ _ _ _ by first | exact HS.out.below hb_wa | exact (HS.out.below (grew1 (Below.refl _ _))).below hb_wa | exact (HS.out.below (grew2 (Below.refl _ _))).below hb_wa | exact (HS.out.below (grew3 (Below.refl _ _))).below hb_wa)
    clear hW0
    go_wp2_with fail
    refine (few_to HF.out HS.out).mono ?_
    rintro e wb ⟨rfl, hb_wb⟩
    have HB_wb : Below w.heap.size w wb := by first | exact after0 HB_wa hb_wb | exact after1 HB_wa hb_wb | exact after2 HB_wa hb_wb | exact after3 HB_wa hb_wb | exact after4 HB_wa hb_wb | exact after5 HB_wa hb_wb
    replace HS := Lib.hid (show Sl wb _ _ _ _ _ _ by first | exact HS.out.below hb_wb | exact (HS.out.below (grew1 (Below.refl _ _))).below hb_wb | exact (HS.out.below (grew2 (Below.refl _ _))).below hb_wb | exact (HS.out.below (grew3 (Below.refl _ _))).below hb_wb)
    go_wp2_with fail
    all_goals try (exfalso; omega)
    go_ret
    exact ⟨rfl, HB_wb⟩
  rcases HLAW with hne | ⟨rfl, hne⟩ | ⟨rfl, rfl, hL⟩
  case' inr.inr => rcases hL with h5 | ⟨h5, h6⟩ | ⟨h5, h6, hg⟩
  all_goals
    try (first | (have hne1 : (e != 0) = true := bne_iff_ne.2 hne) | (have hne1 : (f != 0) = true := bne_iff_ne.2 hne))
    try clear hne
    obtain ⟨q_n_0, q_n_1, q_n_2⟩ := H_n.out.c3
    obtain ⟨q_c_0, q_c_1, q_c_2, q_c_3⟩ := H_c.out.c4
    go_enter Try.func8, Try.ntmps8
    go_wp2_with fail
    refine (head_any HSO.out _).mono ?_
    rintro e wa ⟨rfl, hb_wa⟩
    have HB_wa : Below w.heap.size w wa := by first | exact after0 HB_W0 hb_wa | exact after1 HB_W0 hb_wa | exact after2 HB_W0 hb_wa | exact after3 HB_W0 hb_wa | exact after4 HB_W0 hb_wa | exact after5 HB_W0 hb_wa
    try clear q_n_0 q_n_1 q_n_2
    have H_n := Lib.hid (Box.below (by first | exact H_n.out | exact H_n.out.alloc _ | exact (H_n.out.alloc _).alloc _ | exact ((H_n.out.alloc _).alloc _).alloc _) hb_wa)
    obtain ⟨q_n_0, q_n_1, q_n_2⟩ := H_n.out.c3
    try clear q_c_0 q_c_1 q_c_2 q_c_3
    have H_c := Lib.hid (Box.below (by first | exact H_c.out | exact H_c.out.alloc _ | exact (H_c.out.alloc _).alloc _ | exact ((H_c.out.alloc _).alloc _).alloc _) hb_wa)
    obtain ⟨q_c_0, q_c_1, q_c_2, q_c_3⟩ := H_c.out.c4
    replace HS := Lib.hid (show Sl wa _ _ _ _ _ _ by first | exact HS.out.below hb_wa | exact (HS.out.below (grew1 (Below.refl _ _))).below hb_wa | exact (HS.out.below (grew2 (Below.refl _ _))).below hb_wa | exact (HS.out.below (grew3 (Below.refl _ _))).below hb_wa)
    clear hW0
    go_wp2_with fail
    refine (few_to HF.out HS.out).mono ?_
    rintro e wb ⟨rfl, hb_wb⟩
    have HB_wb : Below w.heap.size w wb := by first | exact after0 HB_wa hb_wb | exact after1 HB_wa hb_wb | exact after2 HB_wa hb_wb | exact after3 HB_wa hb_wb | exact after4 HB_wa hb_wb | exact after5 HB_wa hb_wb
    try clear q_n_0 q_n_1 q_n_2
    have H_n := Lib.hid (Box.below (by first | exact H_n.out | exact H_n.out.alloc _ | exact (H_n.out.alloc _).alloc _ | exact ((H_n.out.alloc _).alloc _).alloc _) hb_wb)
    obtain ⟨q_n_0, q_n_1, q_n_2⟩ := H_n.out.c3
    try clear q_c_0 q_c_1 q_c_2 q_c_3
    have H_c := Lib.hid (Box.below (by first | exact H_c.out | exact H_c.out.alloc _ | exact (H_c.out.alloc _).alloc _ | exact ((H_c.out.alloc _).alloc _).alloc _) hb_wb)
    obtain ⟨q_c_0, q_c_1, q_c_2, q_c_3⟩ := H_c.out.c4
    replace HS := Lib.hid (show Sl wb _ _ _ _ _ _ by first | exact HS.out.below hb_wb | exact (HS.out.below (grew1 (Below.refl _ _))).below hb_wb | exact (HS.out.below (grew2 (Below.refl _ _))).below hb_wb | exact (HS.out.below (grew3 (Below.refl _ _))).below hb_wb)
    go_wp2_with fail
    refine (who_to H1.out HS.out).mono ?_
    rintro e wc ⟨rfl, hb_wc⟩
    have HB_wc : Below w.heap.size w wc := by first | exact after0 HB_wb hb_wc | exact after1 HB_wb hb_wc | exact after2 HB_wb hb_wc | exact after3 HB_wb hb_wc | exact after4 HB_wb hb_wc | exact after5 HB_wb hb_wc
    try clear q_n_0 q_n_1 q_n_2
    have H_n := Lib.hid (Box.below (by first | exact H_n.out | exact H_n.out.alloc _ | exact (H_n.out.alloc _).alloc _ | exact ((H_n.out.alloc _).alloc _).alloc _) hb_wc)
    obtain ⟨q_n_0, q_n_1, q_n_2⟩ := H_n.out.c3
    try clear q_c_0 q_c_1 q_c_2 q_c_3
    have H_c := Lib.hid (Box.below (by first | exact H_c.out | exact H_c.out.alloc _ | exact (H_c.out.alloc _).alloc _ | exact ((H_c.out.alloc _).alloc _).alloc _) hb_wc)
    obtain ⟨q_c_0, q_c_1, q_c_2, q_c_3⟩ := H_c.out.c4
    replace HS := Lib.hid (show Sl wc _ _ _ _ _ _ by first | exact HS.out.below hb_wc | exact (HS.out.below (grew1 (Below.refl _ _))).below hb_wc | exact (HS.out.below (grew2 (Below.refl _ _))).below hb_wc | exact (HS.out.below (grew3 (Below.refl _ _))).below hb_wc)
    go_wp2_with fail
    refine (true_to H2.out).mono ?_
    rintro e wd ⟨rfl, hb_wd⟩
    have HB_wd : Below w.heap.size w wd := by first | exact after0 HB_wc hb_wd | exact after1 HB_wc hb_wd | exact after2 HB_wc hb_wd | exact after3 HB_wc hb_wd | exact after4 HB_wc hb_wd | exact after5 HB_wc hb_wd
    try clear q_n_0 q_n_1 q_n_2
    have H_n := Lib.hid (Box.below (by first | exact H_n.out | exact H_n.out.alloc _ | exact (H_n.out.alloc _).alloc _ | exact ((H_n.out.alloc _).alloc _).alloc _) hb_wd)
    obtain ⟨q_n_0, q_n_1, q_n_2⟩ := H_n.out.c3
    try clear q_c_0 q_c_1 q_c_2 q_c_3
    have H_c := Lib.hid (Box.below (by first | exact H_c.out | exact H_c.out.alloc _ | exact (H_c.out.alloc _).alloc _ | exact ((H_c.out.alloc _).alloc _).alloc _) hb_wd)
    obtain ⟨q_c_0, q_c_1, q_c_2, q_c_3⟩ := H_c.out.c4
    replace HS := Lib.hid (show Sl wd _ _ _ _ _ _ by first | exact HS.out.below hb_wd | exact (HS.out.below (grew1 (Below.refl _ _))).below hb_wd | exact (HS.out.below (grew2 (Below.refl _ _))).below hb_wd | exact (HS.out.below (grew3 (Below.refl _ _))).below hb_wd)
    clear q_n_0 q_n_1 q_n_2 q_c_0 q_c_1 q_c_2 q_c_3
    obtain ⟨W1, hW1, hB1, hZ1, hb1⟩ := boxes1 wd [.int .i64 lo, .int .i64 hi] 42
    have H_s := Lib.hid hb1
    have HB_W1 : Below w.heap.size w W1 := after0 HB_wd hB1
    replace H_n := Lib.hid (H_n.out.below hB1)
    replace H_c := Lib.hid (H_c.out.below hB1)
    replace HS := Lib.hid (HS.out.below hB1)
    clear hb1 hZ1 hB1
    obtain ⟨q_s_0, q_s_1⟩ := H_s.out.c2
    obtain ⟨q_n_0, q_n_1, q_n_2⟩ := H_n.out.c3
    obtain ⟨q_c_0, q_c_1, q_c_2, q_c_3⟩ := H_c.out.c4
    go_wp2_with fail
    all_goals try (exfalso; omega)
    try (go_ret; exact ⟨rfl, HB_W1⟩)
  refine (old_to H3.out HS.out).mono ?_
  rintro e we ⟨rfl, hb_we⟩
  have HB_we := after0 HB_W1 hb_we
  clear hW1 q_n_0 q_n_1 q_n_2 q_c_0 q_c_1 q_c_2 q_c_3 q_s_0 q_s_1
  rcases hg with ⟨rfl, rfl⟩ | rfl
  all_goals
    go_wp2_with fail
    all_goals try (exfalso; omega)
    go_ret
    exact ⟨rfl, HB_we⟩
end Go.Proofs.Ytpdecgbfnhaojaa
